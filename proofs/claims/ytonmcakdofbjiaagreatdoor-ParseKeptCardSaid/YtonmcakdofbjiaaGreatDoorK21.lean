/- A part. -/
import Derived.Test.YtonmcakdofbjiaaGreatDoorK20
import Derived.Deep.Cut
import Derived.StillTailTactics
import Derived.Deep.LoopGhost
set_option linter.all false
set_option maxRecDepth 100000
set_option maxHeartbeats 8000000
namespace Go.Proofs.YtonmcakdofbjiaaGreatDoor
open Go.RowKit
def opTexts(k:Nat):List ByteArray:=(opsOf k).map fun p=>⟨p.1.toArray⟩
def jx(k:Nat):List Int:=(opsOf k).map (·.2)
structure TabAt (w:World) (h:Nat) (rows:Nat->List Value):Prop where
 row:∀k,k<5->∃g,w.cell? ⟨h,k,none⟩=some (.slice (some ⟨g,0,none⟩) (rows k).length (rows k).length)/\∀(j:Nat) (u:Value),(rows k)[j]? =some u->w.cell? ⟨g,j,none⟩=some u
theorem TabAt.kin{w w':World}{h:Nat}{rows:Nat->List Value}(t:TabAt w h rows)(K:Kin w w'):TabAt w' h rows:=⟨fun k hk=>by
 obtain⟨g,h1,h2⟩:=t.row k hk
 exact⟨g,(K.cell (World.block_lt_of_cell? w _ h1)).trans h1,fun j u hu=>(K.cell (World.block_lt_of_cell? w _ (h2 j u hu))).trans (h2 j u hu)⟩⟩
def fiveRows(w:World)(te ts:TypeId)(rows:Nat->List Value):World:=
 ((((((w.alloc (.cells (rows 0).toArray te)).alloc (.cells (rows 1).toArray te)).alloc (.cells (rows 2).toArray te)).alloc (.cells (rows 3).toArray te)).alloc (.cells (rows 4).toArray te)).alloc
   (.cells #[.slice (some ⟨w.heap.size,0,none⟩) (rows 0).length (rows 0).length, .slice (some ⟨w.heap.size+1,0,none⟩) (rows 1).length (rows 1).length, .slice (some ⟨w.heap.size+2,0,none⟩) (rows 2).length (rows 2).length, .slice (some ⟨w.heap.size+3,0,none⟩) (rows 3).length (rows 3).length, .slice (some ⟨w.heap.size+4,0,none⟩) (rows 4).length (rows 4).length] ts))
theorem zbe(w:World)(te ts:TypeId)(rows:Nat->List Value):Kin w (fiveRows w te ts rows):=((((((Kin.refl w).alloc _).alloc _).alloc _).alloc _).alloc _).alloc _
theorem zbd(w:World)(te ts:TypeId)(rows:Nat->List Value):TabAt (fiveRows w te ts rows) (w.heap.size+5) rows:=by
 have top:∀k x,(#[.slice (some ⟨w.heap.size,0,none⟩) (rows 0).length (rows 0).length, .slice (some ⟨w.heap.size+1,0,none⟩) (rows 1).length (rows 1).length, .slice (some ⟨w.heap.size+2,0,none⟩) (rows 2).length (rows 2).length, .slice (some ⟨w.heap.size+3,0,none⟩) (rows 3).length (rows 3).length, .slice (some ⟨w.heap.size+4,0,none⟩) (rows 4).length (rows 4).length]:Array Value)[k]? =some x->(fiveRows w te ts rows).cell? ⟨w.heap.size+5,k,none⟩=some x:=fun k x h=>by
  unfold fiveRows
  rw[World.cell?_alloc_at _ _ _ _ (by simp)]
  exact h
 refine⟨fun k hk=>⟨w.heap.size+k,?_,fun j u hu=>?_⟩⟩
 ·rcases k with _|_|_|_|_|k
  ·exact top _ _ rfl
  ·exact top _ _ rfl
  ·exact top _ _ rfl
  ·exact top _ _ rfl
  ·exact top _ _ rfl
  ·omega
 ·unfold fiveRows
  rcases k with _|_|_|_|_|k
  ·simp[go_sem,hu]
  ·simp[go_sem,hu]
  ·simp[go_sem,hu]
  ·simp[go_sem,hu]
  ·simp[go_sem,hu]
  ·omega
theorem rows_any(w:World):Calls Tryz.prog 160 #[] w fun e w'=>e= .returned (.slice (some ⟨w.heap.size+5,0,none⟩) 5 5)/\TabAt w' (w.heap.size+5) (fun k=>(opTexts k).map .string)/\Kin w w':=by
 have HT:=Lib.hid (zbd w 9 23 (fun k=>(opTexts k).map .string))
 have HK:=Lib.hid (zbe w 9 23 (fun k=>(opTexts k).map .string))
 go_enter Tryz.func160,Tryz.ntmps160
 go_wp2
 go_ret
 exact⟨rfl,HT.out,HK.out⟩
theorem ziy(w:World):Calls Tryz.prog 161 #[] w fun e w'=>e= .returned (.slice (some ⟨w.heap.size+5,0,none⟩) 5 5)/\TabAt w' (w.heap.size+5) (fun k=>(jx k).map (.int .i64))/\Kin w w':=by
 have HT:=Lib.hid (zbd w 3 36 (fun k=>(jx k).map (.int .i64)))
 have HK:=Lib.hid (zbe w 3 36 (fun k=>(jx k).map (.int .i64)))
 go_enter Tryz.func161,Tryz.ntmps161
 go_wp2
 go_ret
 exact⟨rfl,HT.out,HK.out⟩
def uo(l:List Item):Prop:=∀t∈l,t.kind≠1->t.kind≠2->∀k,(opsOf k).lookup t.text.toList=none
def opP(C:Ctx)(k i:Nat)(b:Int):Int:=if b<0 then (opAt k C.l i).getD 0 else 0
theorem zae{x:List UInt8}:∀(l:List (List UInt8×Int)) (j:Nat) (p:List UInt8×Int),l[j]? =some p->p.1=x->(∀(m:Nat) (q:List UInt8×Int),m<j->l[m]? =some q->q.1≠x)->l.lookup x=some p.2
 |[],j,p,h,_,_=>by simp at h
 |(a,c)::l,0,p,h,hp,_=>by
  simp only[List.getElem?_cons_zero,Option.some.injEq] at h
  subst h
  subst hp
  simp[List.lookup]
 |(a,c)::l,j+1,p,h,hp,hn=>by
  have h0:=hn 0 (a,c) (by omega) rfl
  have:(x==a)=false:=by simp only[beq_eq_false_iff_ne];exact fun e=>h0 e.symm
  simp only[List.lookup,this]
  exact zae l j p (by simpa using h) hp fun m q hm hq=>hn (m+1) q (by omega) (by simpa using hq)
theorem lookup_no{x:List UInt8}:∀(l:List (List UInt8×Int)),(∀(m:Nat) (q:List UInt8×Int),l[m]? =some q->q.1≠x)->l.lookup x=none
 |[],_=>rfl
 |(a,c)::l,hn=>by
  have h0:=hn 0 (a,c) rfl
  have:(x==a)=false:=by simp only[beq_eq_false_iff_ne];exact fun e=>h0 e.symm
  simp only[List.lookup,this]
  exact lookup_no l fun m q hq=>hn (m+1) q (by simpa using hq)
theorem zgW{k j:Nat}{t:ByteArray}(h:(opTexts k)[j]? =some t):∃p,(opsOf k)[j]? =some p/\p.1=t.toList/\(jx k)[j]? =some p.2:=by
 unfold opTexts at h
 rw[List.getElem?_map,Option.map_eq_some_iff] at h
 obtain⟨p,h1,h2⟩:=h
 refine⟨p,h1,?_,by unfold jx;rw[List.getElem?_map,h1];rfl⟩
 rw[<-h2,ByteArray.toList_eq]
theorem zgY{C:Ctx}{k i j:Nat}{b:Int}{t:ByteArray}(hL:uo C.l)(ht:(opTexts k)[j]? =some t)(hi:isP C i b t=true)(hn:∀(m:Nat) (u:ByteArray),m<j->(opTexts k)[m]? =some u->isP C i b u=false):∃x,(jx k)[j]? =some x/\opP C k i b=x:=by
 obtain⟨p,h1,h2,h3⟩:=zgW ht
 refine⟨p.2,h3,?_⟩
 unfold isP at hi hn
 rw[Bool.and_eq_true,decide_eq_true_eq] at hi
 obtain⟨hb,hc⟩:=hi
 rw[decide_eq_true hb] at hn
 unfold opP
 rw[if_pos hb]
 unfold comesB at hc hn
 unfold opAt
 split at hc
 ·rename_i x hx
  rw[hx] at hn⊢
  simp only[Bool.and_eq_true,decide_eq_true_eq] at hc
  obtain⟨hk1,hte⟩:=hc
  have hte':x.text.toList=t.toList:=by simpa using hte
  have hlk:(opsOf k).lookup x.text.toList=some p.2:=by
   refine zae _ j p h1 (h2.trans hte'.symm) fun m q hm hq=>?_
   have hu:(opTexts k)[m]? =some ⟨q.1.toArray⟩:=by unfold opTexts;rw[List.getElem?_map,hq];rfl
   have:=hn m _ hm hu
   simp only[Bool.true_and,decide_eq_true hk1] at this
   rw[ByteArray.toList_eq (bs:=(⟨q.1.toArray⟩:ByteArray))] at this
   intro e
   rw[<-e] at this
   simp at this
  have hk2:x.kind=2:=by
   rcases Decidable.em (x.kind=2) with h|h
   ·exact h
   ·rw[hL x (List.mem_of_getElem? hx) hk1 h k] at hlk
    cases hlk
  simp only
  rw[if_pos hk2,hlk]
  rfl
 ·cases hc
theorem op_none{C:Ctx}{k i:Nat}{b:Int}(hn:∀(m:Nat) (u:ByteArray),(opTexts k)[m]? =some u->isP C i b u=false):opP C k i b=0:=by
 unfold opP
 by_cases hb:b<0
 ·rw[if_pos hb]
  unfold isP at hn
  rw[decide_eq_true hb] at hn
  unfold comesB at hn
  unfold opAt
  split
  ·rename_i x hx
   rw[hx] at hn
   split
   ·rename_i hk2
    rw[lookup_no]
    ·rfl
    ·intro m q hq e
     have hu:(opTexts k)[m]? =some ⟨q.1.toArray⟩:=by unfold opTexts;rw[List.getElem?_map,hq];rfl
     have:=hn m _ hu
     simp only[Bool.true_and] at this
     rw[ByteArray.toList_eq (bs:=(⟨q.1.toArray⟩:ByteArray))] at this
     rw[<-e] at this
     simp[hk2] at this
   ·rfl
  ·rfl
 ·rw[if_neg hb]
theorem zbZ(k:Nat):(opTexts k).length<=6/\(jx k).length=(opTexts k).length:=by
 unfold opTexts jx
 refine⟨?_,by simp⟩
 rcases k with _|_|_|_|k<;>simp[opsOf]
theorem kin_drewn{w w':World}(h:∃n,w'=w.drewN n):Kin w w':=by
 obtain⟨n,rfl⟩:=h
 exact(Kin.refl w).drewN n
theorem vG(C:Ctx)(hL:uo C.l)(k i:Nat)(hk:k<5)(b:Int)(w:World)(h:RP C i b w):Calls Tryz.prog 132 #[.pointer (some ⟨C.r,0,none⟩), .int .i64 k] w fun x w'=>x= .returned (.int .i64 (opP C k i b))/\Kin w w':=by
 have H:=Lib.hid h
 have HLX:=Lib.hid hL
 obtain⟨hl6,hl7⟩:=zbZ k
 clear h hL
 generalize hR:opP C k i b=R
 have HR:=Lib.hid hR
 clear hR
 go_enter Tryz.func132,Tryz.ntmps132
 go_wp2_with (go_at_call 160;with_reducible refine(rows_any _).mono ?_;rintro e w1 ⟨rfl,hT,K1⟩;obtain⟨g,q0,hq⟩:=hT.row k hk;have HQ:=Lib.hid hq;have HK1:=Lib.hid K1;simp only[List.length_map] at q0;clear hq K1)
 go_loopg [6] (opTexts k).length (fun gg y wr=>∃j:Nat,y= .int .i64 j/\j<=(opTexts k).length/\gg=(opTexts k).length-j/\Kin w1 wr/\∀(m:Nat) (u:ByteArray),m<j->(opTexts k)[m]? =some u->isP C i b u=false)
 case atStart=>exact⟨0,rfl,Nat.zero_le _,rfl,Kin.refl _,fun m u hm=>by omega⟩
 case round=>
  obtain⟨j,rfl,hj,hgg,hK,hno⟩:=hrel
  have HG:=Lib.hid hgg
  have HK:=Lib.hid hK
  have HN:=Lib.hid hno
  clear hgg hK hno
  by_cases hlt:j<(opTexts k).length
  ·obtain⟨t,ht⟩:∃t,(opTexts k)[j]? =some t:=⟨_,List.getElem?_eq_getElem hlt⟩
   have hc0:=HQ.out j (.string t) (by rw[List.getElem?_map,ht];rfl)
   have hct:wr.cell? ⟨g,j,none⟩=some (.string t):=(HK.out.cell (World.block_lt_of_cell? w1 _ hc0)).trans hc0
   have HI:=Lib.hid (gt C i b t wr ((H.out.kin HK1.out).kin HK.out))
   have HT:=Lib.hid ht
   clear hc0 ht
   cases hi:isP C i b t with
   |false=>
    have HF:=Lib.hid hi
    rw[hi] at HI
    clear hi
    go_wp2_with (go_at_call 46;with_reducible refine HI.out.mono ?_;rintro e w2 ⟨rfl,n,rfl⟩)
    go_roundg ((opTexts k).length-(j+1))
    case measure=>have:=HG.out;omega
    case rel=>
     refine⟨j+1,by simp,by omega,rfl,HK.out.drewN _,fun m u hm hu=>?_⟩
     by_cases e:m=j
     ·subst e
      rw[HT.out] at hu
      cases hu
      exact HF.out
     ·exact HN.out m u (by omega) hu
   |true=>
    obtain⟨x,hx1,hx2⟩:=zgY HLX.out HT.out hi HN.out
    have HX1:=Lib.hid hx1
    have HX2:=Lib.hid hx2
    rw[hi] at HI
    clear hi hx1 hx2
    go_wp2_with (first|(go_at_call 46;with_reducible refine HI.out.mono ?_;rintro e w2 ⟨rfl,hw2⟩;have K2:=kin_drewn hw2;clear hw2)|(go_at_call 161;(with_reducible refine(ziy _).mono ?_;rintro e w3 ⟨rfl,hT2,K3⟩;obtain⟨g2,p0,hp⟩:=hT2.row k hk;have px:=hp j (.int .i64 x) (by rw[List.getElem?_map,HX1.out,Option.map_some]);simp only[List.length_map,hl7] at p0;clear hp)))
    go_ret
    exact⟨congrArg (fun x=>Ending.returned (.int .i64 x)) (HX2.out.symm.trans HR.out),HK1.out.trans ((HK.out.trans K2).trans K3)⟩
  ·obtain rfl:j=(opTexts k).length:=by omega
   have h0:=op_none (C:=C) (k:=k) (i:=i) (b:=b) fun m u hu=>HN.out m u (List.getElem?_eq_some_iff.1 hu).1 hu
   have H0:=Lib.hid h0
   clear h0
   go_wp2_with fail
   go_ret
   exact⟨congrArg (fun x=>Ending.returned (.int .i64 x)) (H0.out.symm.trans HR.out),HK1.out.trans HK.out⟩
def NtOk(l:List Nd):Prop:=∀n∈l,1<=n.depth/\n.depth<=l.length
theorem NtOk.nil:NtOk []:=fun n h=>by cases h
theorem NtOk.append{a b:List Nd}(ha:NtOk a)(hb:NtOk b):NtOk (a++b):=by
 intro n hn
 rw[List.length_append]
 rcases List.mem_append.1 hn with h|h
 ·have:=ha n h;omega
 ·have:=hb n h;omega
theorem j7(n:Nd)(vs:List (Value×List Nd))(h:∀x∈vs,NtOk x.2):NtOk (nodeL n vs):=by
 have key:∀m∈xk vs,2<=m.depth/\m.depth<=(xk vs).length+1:=by
  induction vs with
  |nil=>intro m hm;cases hm
  |cons x vs ih=>
   intro m hm
   have hl:(xk (x::vs)).length=x.2.length+(xk vs).length:=by simp[xk,xh]
   have hm':m∈xO x.2++xk vs:=by simpa [xk] using hm
   rcases List.mem_append.1 hm' with h1|h1
   ·obtain⟨q,hq,rfl⟩:=List.mem_map.1 h1
    have:=h x (List.mem_cons_self ..) q hq
    simp only
    omega
   ·have:=ih (fun y hy=>h y (List.mem_cons_of_mem _ hy)) m h1
    omega
 intro m hm
 unfold nodeL at hm⊢
 rw[List.length_cons]
 rcases List.mem_cons.1 hm with rfl|h1
 ·simp only[topN];omega
 ·have:=key m h1;omega
theorem zd0(d:Int):∀t:Tr,xO (flatT t d)=flatT t (d+1):=by
 have key:∀(n:Nat) (ts:List Tr) (d:Int),(flatTs ts 0).length<=n->xO (flatTs ts d)=flatTs ts (d+1):=by
  intro n
  induction n with
  |zero=>
   intro ts d h
   cases ts with
   |nil=>rfl
   |cons t ts=>cases t;simp[flatTs,flatT] at h
  |succ n ih=>
   intro ts d h
   cases ts with
   |nil=>rfl
   |cons t ts=>
    cases t with
    |mk m ks=>
     simp only[flatTs,flatT,List.length_append,List.length_cons] at h
     have e1:=yJ (0+1) 0 ks
     have h1:=ih ks (d+1) (by omega)
     have h2:=ih ts d (by omega)
     simp only[flatTs,flatT]
     unfold xO at h1 h2⊢
     rw[List.map_append,List.map_cons,h1,h2]
 intro t
 have:=key _ [t] d (Nat.le_refl _)
 simpa [flatTs] using this
theorem jq(d:Int):∀ts:List Tr,xO (flatTs ts d)=flatTs ts (d+1)
 |[]=>rfl
 |t::ts=>by
  have h1:=zd0 d t
  have h2:=jq d ts
  simp only[flatTs]
  unfold xO at h1 h2⊢
  rw[List.map_append,h1,h2]
theorem km{n:Nd}{vs:List (Value×List Nd)}{k:Int}{name:ByteArray}{num op a:Int}{ks:List Tr}(hn:n.kind=k/\n.name=name/\n.num=num/\n.op=op/\n.at_=a)(hk:xk vs=flatTs ks 2):nodeL n vs=flatTs [zJ k name num op a ks] 1:=by
 obtain⟨h1,h2,h3,h4,h5⟩:=hn
 simp only[flatTs,zJ,flatT,List.append_nil]
 unfold nodeL topN
 rw[hk,h1,h2,h3,h4,h5]
 rfl
def Ans(r:Res (List Tr))(l:List Nd)(j:Nat)(b':Int):Prop:=match r with
 | .ok ts j'=>j=j'/\b'= -1/\l=flatTs ts 1
 | .no p=>b'=p/\0<=p
abbrev Vb(b:Int):Prop:=b= -1\/0<=b
@[reducible] def bzN:NT->Nat
 | .block=>1
 |_=>0
theorem zjK(nt:NT):bzN nt<=1:=by cases nt<;>simp[bzN]
def PN(C:Ctx)(nt:NT)(i:Nat)(b:Int)(l:List Nd)(j:Nat)(b':Int):Prop:=
 i<=j/\l.length<=j-i+bzN nt/\NtOk l/\Vb b'/\(0<=b->j=i/\b'=b)/\(b= -1->∀f r,rd C f nt i=some r->Ans r l j b')
abbrev yG(C:Ctx)(w:World)(P:List Nd->Nat->Int->Prop)(e:Ending)(w':World):Prop:=
 ∃v l j b',e= .returned v/\w'.ownsRow w.heap.size 50 6 v l.length (ndCells l)/\RP C j b' w'/\Gr C.r w w'/\P l j b'
def remP(C:Ctx)(i:Nat)(b:Int):Nat:=if b<0 then C.l.length-i+1 else 0
structure PSt (C:Ctx) (w:World) (R:Nat) (i:Nat) (b:Int) (wk:World):Prop where
 rp:RP C i b wk
 gr:Gr C.r w wk
 vb:Vb b
 rem:remP C i b<=R
theorem PSt.start{C:Ctx}{i:Nat}{b:Int}{w:World}(h:RP C i b w)(hb:Vb b):PSt C w (remP C i b) i b w:=⟨h, .refl _ _,hb,Nat.le_refl _⟩
theorem PSt.kin{C:Ctx}{w wk w':World}{R i:Nat}{b:Int}(h:PSt C w R i b wk)(K:Kin wk w'):PSt C w R i b w':=⟨h.rp.kin K,h.gr.trans (.of_kin K),h.vb,h.rem⟩
theorem jU{C:Ctx}{i:Nat}{b:Int}{w:World}(h:RP C i b w):0<=bad1 C i b/\(0<=b->bad1 C i b=b):=by
 unfold bad1
 split
 ·exact⟨yA h i,fun h=>by omega⟩
 ·rename_i hb;exact⟨by omega,fun _=>rfl⟩
theorem uI{C:Ctx}{i:Nat}{b:Int}(h:0<=b):remP C i b=0:=by unfold remP;rw[if_neg (by omega)]
theorem remP_good{C:Ctx}{i:Nat}{b:Int}(h:b<0):remP C i b=C.l.length-i+1:=by unfold remP;rw[if_pos h]
theorem zgw{C:Ctx}{i:Nat}{b:Int}{s:ByteArray}{w:World}(h:RP C i b w):remP C (zk C i b s) (zn C i b s)<=remP C i b:=by
 unfold zk zn
 split
 ·rename_i hi
  have hb:=(isP_lt hi).2
  rw[remP_good hb,remP_good hb];omega
 ·rw[uI (jU h).1];exact Nat.zero_le _
theorem zg4{C:Ctx}{i:Nat}{b:Int}{w:World}(h:RP C i b w):remP C (nameJ C i b) (zD C i b)<=remP C i b:=by
 unfold nameJ zD
 split
 ·rename_i hi
  have hb:b<0:=by unfold namedP at hi;rw[Bool.and_eq_true,decide_eq_true_eq] at hi;exact hi.1
  rw[remP_good hb,remP_good hb];omega
 ·rw[uI (jU h).1];exact Nat.zero_le _
theorem PSt.take{C:Ctx}{w wk w':World}{R i:Nat}{b:Int}{s:ByteArray}(h:PSt C w R i b wk)(h1:RP C (zk C i b s) (zn C i b s) w')(h2:Grew C wk w'):PSt C w R (zk C i b s) (zn C i b s) w':=by
 refine⟨h1,h.gr.trans (.of_grew h2),?_,Nat.le_trans (zgw h.rp) h.rem⟩
 unfold zn
 split
 ·exact h.vb
 ·exact .inr (jU h.rp).1
theorem PSt.fail{C:Ctx}{w wk w':World}{R i:Nat}{b:Int}(h:PSt C w R i b wk)(h1:RP C i (bad1 C i b) w')(h2:Grew C wk w'):PSt C w R i (bad1 C i b) w':=
 ⟨h1,h.gr.trans (.of_grew h2), .inr (jU h.rp).1,by rw[uI (jU h.rp).1];exact Nat.zero_le _⟩
theorem PSt.name{C:Ctx}{w wk w':World}{R i:Nat}{b:Int}(h:PSt C w R i b wk)(h1:RP C (nameJ C i b) (zD C i b) w')(h2:Gr C.r wk w'):PSt C w R (nameJ C i b) (zD C i b) w':=by
 refine⟨h1,h.gr.trans h2,?_,Nat.le_trans (zg4 h.rp) h.rem⟩
 unfold zD
 split
 ·exact h.vb
 ·exact .inr (jU h.rp).1
theorem PSt.inc{C:Ctx}{w wk:World}{R i:Nat}{b:Int}(h:PSt C w R i b wk)(hlt:i<C.l.length)(hR:C.l.length-(i+1)+1<=R):PSt C w R (i+1) b (wk.setCell ⟨C.r,1,none⟩ (.int .i64 (↑i+1))):=by
 refine⟨?_,h.gr.setCell _ _,h.vb,?_⟩
 ·have:=h.rp.setAt (j:=i+1) hlt
  simpa using this
 ·unfold remP;split<;>omega
theorem PSt.less{C:Ctx}{w wk:World}{R R' i:Nat}{b:Int}(h:PSt C w R i b wk)(hR:remP C i b<=R'):PSt C w R' i b wk:=⟨h.rp,h.gr,h.vb,hR⟩
theorem PN.rem{C:Ctx}{nt:NT}{i j:Nat}{b b':Int}{l:List Nd}(h:PN C nt i b l j b')(hv:Vb b):remP C j b'<=remP C i b:=by
 obtain⟨h1,_,_,h4,h5,_⟩:=h
 rcases hv with rfl|hb
 ·rw[remP_good (C:=C) (i:=i) (b:= -1) (by omega)]
  unfold remP
  split<;>omega
 ·obtain⟨rfl,rfl⟩:=h5 hb
  exact Nat.le_refl _
theorem PSt.sub{C:Ctx}{w wk w':World}{R i j:Nat}{b b':Int}{nt:NT}{l:List Nd}(h:PSt C w R i b wk)(h1:RP C j b' w')(h2:Gr C.r wk w')(hp:PN C nt i b l j b'):PSt C w R j b' w':=
 ⟨h1,h.gr.trans h2,hp.2.2.2.1,Nat.le_trans (hp.rem h.vb) h.rem⟩
theorem RP.at1{C:Ctx}{i:Nat}{b:Int}{w:World}(h:RP C i b w):w.cell? ⟨C.r,1,none⟩=some (.int .i64 i)/\w.frozen? ⟨C.r,1,none⟩=false/\w.cell? ⟨C.r,3,none⟩=some (.int .i64 b):=by
 obtain⟨_,_,_,_,_,h1,_,h3,hf,_⟩:=h.cells
 exact⟨h1,hf,h3⟩
theorem za(C:Ctx)(i:Nat)(b:Int)(s:ByteArray)(w:World)(h:RP C i b w):Calls Tryz.prog 46 #[.pointer (some ⟨C.r,0,none⟩), .string s] w fun x w'=>x= .returned (.bool (isP C i b s))/\Kin w w':=
 (gt C i b s w h).mono fun e w' h=>⟨h.1,kin_drewn h.2⟩
theorem zr(C:Ctx)(i:Nat)(b:Int)(w:World)(h:RP C i b w):Calls Tryz.prog 88 #[.pointer (some ⟨C.r,0,none⟩)] w fun x w'=>x= .returned (.int .i64 (placeOf C.l C.e i))/\Kin w w':=
 (rplace_any C i b w h).mono fun e w' h=>⟨h.1,kin_drewn h.2⟩
theorem zke(w:World):kU w (.slice none 0 0) []:=⟨none,0,rfl,fun h=>absurd rfl h⟩
theorem zkd(w:World)(t:TypeId)(x1:Value×List Nd):kU (w.alloc (.cells #[x1.1] t)) (.slice (some ⟨w.heap.size,0,none⟩) 1 1) [x1]:=⟨_,1,rfl,fun _=>⟨_,rfl,Nat.le_refl _,fun j x hx=>by
 rcases j with _|j
 ·cases hx;simp[go_sem]
 ·simp at hx⟩⟩
theorem held2(w:World)(t:TypeId)(x1 x2:Value×List Nd):kU (w.alloc (.cells #[x1.1,x2.1] t)) (.slice (some ⟨w.heap.size,0,none⟩) 2 2) [x1,x2]:=⟨_,2,rfl,fun _=>⟨_,rfl,Nat.le_refl _,fun j x hx=>by
 rcases j with _|_|j
 ·cases hx;simp[go_sem]
 ·cases hx;simp[go_sem]
 ·simp at hx⟩⟩
theorem held3(w:World)(t:TypeId)(x1 x2 x3:Value×List Nd):kU (w.alloc (.cells #[x1.1,x2.1,x3.1] t)) (.slice (some ⟨w.heap.size,0,none⟩) 3 3) [x1,x2,x3]:=⟨_,3,rfl,fun _=>⟨_,rfl,Nat.le_refl _,fun j x hx=>by
 rcases j with _|_|_|j
 ·cases hx;simp[go_sem]
 ·cases hx;simp[go_sem]
 ·cases hx;simp[go_sem]
 ·simp at hx⟩⟩
def Lst(B:Nat)(w:World)(x:Value×List Nd):Prop:=w.ownsRow B 50 6 x.1 x.2.length (ndCells x.2)/\NtOk x.2/\x.2.length<=20000
theorem Lst.kin{B:Nat}{w w':World}{x:Value×List Nd}(h:Lst B w x)(K:Kin w w'):Lst B w' x:=⟨owns_kin h.1 K,h.2⟩
theorem Lst.gr{B r:Nat}{w w':World}{x:Value×List Nd}(h:Lst B w x)(G:Gr r w w')(hr:r<B):Lst B w' x:=⟨G.owns h.1 hr,h.2⟩
abbrev ndV(n:Nd):Value:= .agg #[.int .i64 n.depth, .int .i64 n.kind, .string n.name, .int .i64 n.num, .int .i64 n.op, .int .i64 n.at_]
theorem vd(n:Nd)(vs:List (Value×List Nd))(hvl:vs.length<=3)(hb:Value)(B:Nat)(wk w:World)(K:Kin wk w)(hB:B<=wk.heap.size)(hheld:kU w hb vs)(hl:∀x∈vs,Lst B w x):
 Calls Tryz.prog 91 #[ndV n,hb] w fun e w'=>∃v,e= .returned v/\w'.ownsRow B 50 6 v (nodeL n vs).length (ndCells (nodeL n vs))/\Kin wk w':=
 (zg2 n vs hvl hb w hheld (fun x hx=> .of_owns (hl x hx).1) (fun x hx=>(hl x hx).2.2) (fun x hx m hm=>by have h1:=(hl x hx).2.1 m hm;have h2:=(hl x hx).2.2;omega)).mono fun e w' h=>by
  obtain⟨v,h1,h2,h3⟩:=h
  exact⟨v,h1,h2.mono (Nat.le_trans hB K.size),K.trans h3⟩
theorem qT(n:Nd)(B:Nat)(w:World)(hB:B<=w.heap.size):Calls Tryz.prog 91 #[ndV n, .slice none 0 0] w fun e w'=>∃v,e= .returned v/\w'.ownsRow B 50 6 v (nodeL n []).length (ndCells (nodeL n []))/\Kin w w':=
 vd n [] (by simp) _ B w w (Kin.refl _) hB (zke w) (fun x hx=>by cases hx)
theorem node1(n:Nd)(B:Nat)(w:World)(hB:B<=w.heap.size)(x1:Value×List Nd)(h1:Lst B w x1):Calls Tryz.prog 91 #[ndV n, .slice (some ⟨w.heap.size,0,none⟩) 1 1] (w.alloc (.cells #[x1.1] 25)) fun e w'=>∃v,e= .returned v/\w'.ownsRow B 50 6 v (nodeL n [x1]).length (ndCells (nodeL n [x1]))/\Kin w w':=
 vd n [x1] (by simp) _ B w _ ((Kin.refl _).alloc _) hB (zkd w 25 x1) (fun x hx=>by rw[List.mem_singleton.1 hx];exact h1.kin ((Kin.refl _).alloc _))
theorem zaz(n:Nd)(B:Nat)(w:World)(hB:B<=w.heap.size)(x1 x2:Value×List Nd)(h1:Lst B w x1)(h2:Lst B w x2):Calls Tryz.prog 91 #[ndV n, .slice (some ⟨w.heap.size,0,none⟩) 2 2] (w.alloc (.cells #[x1.1,x2.1] 25)) fun e w'=>∃v,e= .returned v/\w'.ownsRow B 50 6 v (nodeL n [x1,x2]).length (ndCells (nodeL n [x1,x2]))/\Kin w w':=
 vd n [x1,x2] (by simp) _ B w _ ((Kin.refl _).alloc _) hB (held2 w 25 x1 x2) (fun x hx=>by
  simp only[List.mem_cons,List.not_mem_nil,or_false] at hx
  rcases hx with rfl|rfl
  ·exact h1.kin ((Kin.refl _).alloc _)
  ·exact h2.kin ((Kin.refl _).alloc _))
theorem node3(n:Nd)(B:Nat)(w:World)(hB:B<=w.heap.size)(x1 x2 x3:Value×List Nd)(h1:Lst B w x1)(h2:Lst B w x2)(h3:Lst B w x3):Calls Tryz.prog 91 #[ndV n, .slice (some ⟨w.heap.size,0,none⟩) 3 3] (w.alloc (.cells #[x1.1,x2.1,x3.1] 25)) fun e w'=>∃v,e= .returned v/\w'.ownsRow B 50 6 v (nodeL n [x1,x2,x3]).length (ndCells (nodeL n [x1,x2,x3]))/\Kin w w':=
 vd n [x1,x2,x3] (by simp) _ B w _ ((Kin.refl _).alloc _) hB (held3 w 25 x1 x2 x3) (fun x hx=>by
  simp only[List.mem_cons,List.not_mem_nil,or_false] at hx
  rcases hx with rfl|rfl|rfl
  ·exact h1.kin ((Kin.refl _).alloc _)
  ·exact h2.kin ((Kin.refl _).alloc _)
  ·exact h3.kin ((Kin.refl _).alloc _))
def noStmt:Res (List Tr)->Bool
 | .ok ts _=>ts.isEmpty
 | .no _=>false
def PS(C:Ctx)(i:Nat)(l:List Nd)(j:Nat)(b':Int):Prop:=
 i<=j/\l.length<=j-i+1/\NtOk l/\Vb b'/\l≠[]/\∀f r,rd C f .stmt i=some r->if noStmt r then b'=placeOf C.l C.e i/\0<=b' else Ans r l j b'
structure PAll (C:Ctx) (N:Nat):Prop where
 expr:∀(k i:Nat) (b:Int) (w:World),k<=5->RP C i b w->Vb b->remP C i b*20+(8-k)<N->Calls Tryz.prog 93 #[.pointer (some ⟨C.r,0,none⟩), .int .i64 k] w (yG C w (PN C (.row k) i b))
 unary:∀(i:Nat) (b:Int) (w:World),RP C i b w->Vb b->remP C i b*20+2<N->Calls Tryz.prog 131 #[.pointer (some ⟨C.r,0,none⟩)] w (yG C w (PN C .unary i b))
 atom:∀(i:Nat) (b:Int) (w:World),RP C i b w->Vb b->remP C i b*20+1<N->Calls Tryz.prog 159 #[.pointer (some ⟨C.r,0,none⟩)] w (yG C w (PN C .atom i b))
 block:∀(i:Nat) (b:Int) (w:World),RP C i b w->Vb b->remP C i b*20+9<N->Calls Tryz.prog 94 #[.pointer (some ⟨C.r,0,none⟩)] w (yG C w (PN C .block i b))
 stmt:∀(i:Nat) (w:World),RP C i (-1) w->remP C i (-1)*20+10<N->Calls Tryz.prog 48 #[.pointer (some ⟨C.r,0,none⟩)] w (yG C w (PS C i))
theorem zP{w:World}{B n:Nat}{e:TypeId}{size:Nat}{v:Value}{xs:List Value}(h:w.ownsRow B e size v n xs):∃bo m cap,v= .slice bo m cap:=by
 rcases h.2 with⟨rfl,_⟩|⟨g,cap,_,rfl,_⟩
 ·exact⟨_,_,_,rfl⟩
 ·exact⟨_,_,_,rfl⟩
theorem lst_of{C:Ctx}{w w':World}{nt:NT}{i j:Nat}{b b':Int}{v:Value}{l:List Nd}{B:Nat}(ho:w'.ownsRow w.heap.size 50 6 v l.length (ndCells l))(hB:B<=w.heap.size)(hp:PN C nt i b l j b')(hR:RP C j b' w'):Lst B w' (v,l):=by
 refine⟨ho.mono hB,hp.2.2.1,?_⟩
 have h1:=hp.2.1
 have h2:=hR.le
 have h3:=hR.len
 have h4:=zjK nt
 show l.length<=20000
 omega
theorem isP_good{C:Ctx}{i:Nat}{s:ByteArray}:isP C i (-1) s=comesB C.l i s:=by unfold isP;simp
theorem uj{C:Ctx}{i:Nat}{b:Int}{s:ByteArray}(h:0<=b):isP C i b s=false:=by unfold isP;rw[decide_eq_false (by omega)];rfl
theorem xm(n:Nd)(x:Value×List Nd):(nodeL n [x]).length=x.2.length+1:=by simp[nodeL,xk,xh]
theorem qB{n:Nd}{v:Value}{ts:List Tr}{k:Int}{name:ByteArray}{num op a:Int}(hn:n.kind=k/\n.name=name/\n.num=num/\n.op=op/\n.at_=a):nodeL n [(v,flatTs ts 1)]=flatTs [zJ k name num op a ts] 1:=
 km hn (by simp[xk,jq])
theorem zaO{C:Ctx}{i j:Nat}{b':Int}{l:List Nd}{op:Int}{v:Value}(hop:(op=1/\comesB C.l i ⟨#[45]⟩=true)\/(op=2/\comesB C.l i ⟨#[45]⟩=false/\comesB C.l i ⟨#[33]⟩=true))(h:PN C .unary (i+1) (-1) l j b'):PN C .unary i (-1) (nodeL ⟨0,14,zL,0,op,placeOf C.l C.e i⟩ [(v,l)]) j b':=by
 obtain⟨h1,h2,h3,h4,_,h6⟩:=h
 refine⟨by omega,by rw[xm];simp only;omega,j7 _ _ (fun x hx=>by rw[List.mem_singleton.1 hx];exact h3),h4,fun h=>by omega,fun _ f r hr=>?_⟩
 cases f with
 |zero=>unfold rd at hr;cases hr
 |succ f=>
  have key:∀r1,rd C f .unary (i+1)=some r1->r=(match r1 with| .ok ts j=> .ok [zJ 14 zL 0 op (placeOf C.l C.e i) ts] j| .no p=> .no p)->Ans r (nodeL ⟨0,14,zL,0,op,placeOf C.l C.e i⟩ [(v,l)]) j b':=by
   intro r1 hr1 e
   have h7:=h6 rfl f r1 hr1
   cases r1 with
   |ok ts j1=>
    obtain⟨e1,e2,e3⟩:=h7
    subst e
    refine⟨e1,e2,?_⟩
    rw[e3]
    exact qB ⟨rfl,rfl,rfl,rfl,rfl⟩
   |no p=>subst e;exact h7
  unfold rd at hr
  rcases hop with⟨rfl,hc⟩|⟨rfl,hc,hc2⟩
  ·rw[if_pos hc] at hr
   cases h8:rd C f .unary (i+1) with
   |none=>rw[h8] at hr;cases hr
   |some r1=>
    rw[h8] at hr
    refine key r1 h8 ?_
    cases r1<;>exact(Option.some.inj hr).symm
  ·rw[if_neg (by simp[hc]),if_pos hc2] at hr
   cases h8:rd C f .unary (i+1) with
   |none=>rw[h8] at hr;cases hr
   |some r1=>
    rw[h8] at hr
    refine key r1 h8 ?_
    cases r1<;>exact(Option.some.inj hr).symm
theorem pn_atom{C:Ctx}{i j:Nat}{b b':Int}{l:List Nd}(hc:b= -1->comesB C.l i ⟨#[45]⟩=false/\comesB C.l i ⟨#[33]⟩=false)(h:PN C .atom i b l j b'):PN C .unary i b l j b':=by
 obtain⟨h1,h2,h3,h4,h5,h6⟩:=h
 refine⟨h1,h2,h3,h4,h5,fun hb f r hr=>?_⟩
 cases f with
 |zero=>unfold rd at hr;cases hr
 |succ f=>
  unfold rd at hr
  obtain⟨c1,c2⟩:=hc hb
  rw[if_neg (by simp[c1]),if_neg (by simp[c2])] at hr
  exact h6 hb f r hr
theorem zcY{C:Ctx}{N:Nat}(IH:PAll C N)(i:Nat)(b:Int)(w:World)(h:RP C i b w)(hv:Vb b)(hm:remP C i b*20+2<=N):Calls Tryz.prog 131 #[.pointer (some ⟨C.r,0,none⟩)] w (yG C w (PN C .unary i b)):=by
 have hS:=PSt.start h hv
 have hrl:=h.lt
 have hlen:=h.len
 obtain⟨q1,qf,q3⟩:=h.at1
 generalize hQ:yG C w (PN C .unary i b)=Q
 have HQ:Hid (∀v l j b' w',w'.ownsRow w.heap.size 50 6 v l.length (ndCells l)->RP C j b' w'->Gr C.r w w'->PN C .unary i b l j b'->Q (.returned v) w'):=Lib.hid (fun v l j b' w' h1 h2 h3 h4=>by rw[<-hQ];exact⟨v,l,j,b',rfl,h1,h2,h3,h4⟩)
 clear hQ h
 have HIH:=Lib.hid IH
 clear IH
 by_cases hi:isP C i b ⟨#[45]⟩=true
 ·obtain⟨hlt,hb0⟩:=isP_lt hi
  obtain rfl:b= -1:=by rcases hv with h|h<;>omega
  rw[isP_good] at hi
  rw[remP_good (by omega)] at hm
  have HC:=Lib.hid hi
  have hI:Hid (isP C i (-1) ⟨#[45]⟩=true):=Lib.hid (by rw[isP_good];exact hi)
  clear hi
  go_enter Tryz.func131,Tryz.ntmps131
  go_upto_region 4 with(first|(go_at_call 88;with_reducible refine(zr C i _ _ hS.rp).mono ?_;rintro e w1 ⟨rfl,K⟩;replace hS:=hS.kin K;clear q1 qf q3;obtain⟨q1,qf,q3⟩:=hS.rp.at1;clear K)|(go_at_call 46;with_reducible refine(za C i _ _ _ hS.rp).mono ?_;rintro e w2 ⟨rfl,K⟩;replace hS:=hS.kin K;clear q1 qf q3;obtain⟨q1,qf,q3⟩:=hS.rp.at1;rw[hI.out];clear K))
  have hS2:=(hS.inc hlt (by rw[remP_good (by omega)];omega)).less (R':=C.l.length-(i+1)+1) (by rw[remP_good (by omega)];exact Nat.le_refl _)
  generalize World.setCell _ ⟨C.r,1,none⟩ (.int .i64 (↑i+1))=w3 at hS2⊢
  clear hS q1 qf q3
  have hms:=hS2.rem
  go_wp2_with (first|(go_at_call 131;with_reducible refine(HIH.out.unary (i+1) (-1) _ hS2.rp hS2.vb (by omega)).mono ?_;rintro e w4 ⟨v1,l1,j,b',rfl,ho,hR,hG,hP⟩;obtain⟨bo1,m1,c1,rfl⟩:=zP ho;have hl1:=lst_of ho hS2.gr.size hP hR;have hS3:=hS2.sub hR hG hP)|(go_at_call 91;with_reducible refine(node1 ⟨0,14,⟨#[]⟩,0,1,placeOf C.l C.e i⟩ w.heap.size _ hS3.gr.size (_,l1) hl1).mono ?_;rintro e w5 ⟨v,rfl,ho2,K2⟩))
  have hS4:=hS3.kin K2
  exact HQ.out _ _ _ _ _ ho2 hS4.rp hS4.gr (zaO (.inl ⟨rfl,HC.out⟩) hP)
 ·have hi':isP C i b ⟨#[45]⟩=false:=by simpa using hi
  clear hi
  have hI:Hid (isP C i b ⟨#[45]⟩=false):=Lib.hid hi'
  by_cases hj:isP C i b ⟨#[33]⟩=true
  ·obtain⟨hlt,hb0⟩:=isP_lt hj
   obtain rfl:b= -1:=by rcases hv with h|h<;>omega
   have hJ:Hid (isP C i (-1) ⟨#[33]⟩=true):=Lib.hid hj
   rw[isP_good] at hj hi'
   rw[remP_good (by omega)] at hm
   have HC:=Lib.hid hj
   have HC2:=Lib.hid hi'
   clear hj hi'
   go_enter Tryz.func131,Tryz.ntmps131
   go_upto_region 7 with(first|(go_at_call 88;with_reducible refine(zr C i _ _ hS.rp).mono ?_;rintro e w1 ⟨rfl,K⟩;replace hS:=hS.kin K;clear q1 qf q3;obtain⟨q1,qf,q3⟩:=hS.rp.at1;clear K)|(go_at_call 46;with_reducible refine(za C i _ ⟨#[45]⟩ _ hS.rp).mono ?_;rintro e w2 ⟨rfl,K⟩;replace hS:=hS.kin K;clear q1 qf q3;obtain⟨q1,qf,q3⟩:=hS.rp.at1;rw[hI.out];clear K)|(go_at_call 46;with_reducible refine(za C i _ ⟨#[33]⟩ _ hS.rp).mono ?_;rintro e w2 ⟨rfl,K⟩;replace hS:=hS.kin K;clear q1 qf q3;obtain⟨q1,qf,q3⟩:=hS.rp.at1;rw[hJ.out];clear K))
   have hS2:=(hS.inc hlt (by rw[remP_good (by omega)];omega)).less (R':=C.l.length-(i+1)+1) (by rw[remP_good (by omega)];exact Nat.le_refl _)
   generalize World.setCell _ ⟨C.r,1,none⟩ (.int .i64 (↑i+1))=w3 at hS2⊢
   clear hS q1 qf q3
   have hms:=hS2.rem
   go_wp2_with (first|(go_at_call 131;with_reducible refine(HIH.out.unary (i+1) (-1) _ hS2.rp hS2.vb (by omega)).mono ?_;rintro e w4 ⟨v1,l1,j,b',rfl,ho,hR,hG,hP⟩;obtain⟨bo1,m1,c1,rfl⟩:=zP ho;have hl1:=lst_of ho hS2.gr.size hP hR;have hS3:=hS2.sub hR hG hP)|(go_at_call 91;with_reducible refine(node1 ⟨0,14,⟨#[]⟩,0,2,placeOf C.l C.e i⟩ w.heap.size _ hS3.gr.size (_,l1) hl1).mono ?_;rintro e w5 ⟨v,rfl,ho2,K2⟩))
   have hS4:=hS3.kin K2
   exact HQ.out _ _ _ _ _ ho2 hS4.rp hS4.gr (zaO (.inr ⟨rfl,HC2.out,HC.out⟩) hP)
  ·have hj':isP C i b ⟨#[33]⟩=false:=by simpa using hj
   clear hj
   have hJ:Hid (isP C i b ⟨#[33]⟩=false):=Lib.hid hj'
   have HC:Hid (b= -1->comesB C.l i ⟨#[45]⟩=false/\comesB C.l i ⟨#[33]⟩=false):=Lib.hid (fun e=>by subst e;rw[isP_good] at hj' hi';exact⟨hi',hj'⟩)
   clear hi' hj'
   go_enter Tryz.func131,Tryz.ntmps131
   go_wp2_with (first|(go_at_call 88;with_reducible refine(zr C i _ _ hS.rp).mono ?_;rintro e w1 ⟨rfl,K⟩;replace hS:=hS.kin K;clear q1 qf q3;obtain⟨q1,qf,q3⟩:=hS.rp.at1;clear K)|(go_at_call 46;with_reducible refine(za C i _ ⟨#[45]⟩ _ hS.rp).mono ?_;rintro e w2 ⟨rfl,K⟩;replace hS:=hS.kin K;clear q1 qf q3;obtain⟨q1,qf,q3⟩:=hS.rp.at1;rw[hI.out];clear K)|(go_at_call 46;with_reducible refine(za C i _ ⟨#[33]⟩ _ hS.rp).mono ?_;rintro e w2 ⟨rfl,K⟩;replace hS:=hS.kin K;clear q1 qf q3;obtain⟨q1,qf,q3⟩:=hS.rp.at1;rw[hJ.out];clear K)|(go_at_call 159;with_reducible refine(HIH.out.atom i b _ hS.rp hv (by omega)).mono ?_;rintro e w4 ⟨v1,l1,j,b',rfl,ho,hR,hG,hP⟩;have hS3:=hS.sub hR hG (pn_atom HC.out hP)))
   exact HQ.out _ _ _ _ _ (ho.mono hS.gr.size) hS3.rp hS3.gr (pn_atom HC.out hP)
theorem yW{C:Ctx}{i:Nat}:namedP C i (-1)=namedB C.l i:=by unfold namedP;simp
theorem zdG{C:Ctx}{i:Nat}{b:Int}(h:0<=b):namedP C i b=false:=by unfold namedP;rw[decide_eq_false (by omega)];rfl
theorem uS{C:Ctx}{i:Nat}{b:Int}(h:0<=b):bad1 C i b=b:=by unfold bad1;rw[if_neg (by omega)]
theorem xq{C:Ctx}{i:Nat}:bad1 C i (-1)=placeOf C.l C.e i:=by unfold bad1;rw[if_pos (by omega)]
theorem z7{C:Ctx}{i:Nat}{b:Int}{s:ByteArray}:i<=zk C i b s:=by unfold zk;split<;>omega
theorem ve{C:Ctx}{i:Nat}{b:Int}:i<=nameJ C i b:=by unfold nameJ;split<;>omega
theorem zt{C:Ctx}{i:Nat}{b:Int}{s:ByteArray}(h:0<=b):zk C i b s=i/\zn C i b s=b:=by
 unfold zk zn
 rw[uj h,if_neg (by simp),if_neg (by simp)]
 exact⟨rfl,uS h⟩
theorem uR{C:Ctx}{i:Nat}{b:Int}(hpl:∀k,0<=placeOf C.l C.e k):Vb (bad1 C i b):=by
 unfold bad1
 split
 ·exact .inr (hpl i)
 ·exact .inr (by omega)
theorem take_vb{C:Ctx}{i:Nat}{b:Int}{s:ByteArray}(hpl:∀k,0<=placeOf C.l C.e k)(h:Vb b):Vb (zn C i b s):=by
 unfold zn
 split
 ·exact h
 ·exact uR hpl
theorem gA{C:Ctx}{i:Nat}{b:Int}(hpl:∀k,0<=placeOf C.l C.e k)(h:Vb b):Vb (zD C i b):=by
 unfold zD
 split
 ·exact h
 ·exact uR hpl
theorem qM{C:Ctx}{i:Nat}(h:namedB C.l i=true):nameJ C i (-1)=i+1/\zD C i (-1)= -1/\zV C i (-1)=textAt C.l i:=by
 unfold nameJ zD zV
 rw[yW,h]
 exact⟨rfl,rfl,rfl⟩
theorem za0{C:Ctx}{i:Nat}(h:namedB C.l i=false):nameJ C i (-1)=i/\zD C i (-1)=placeOf C.l C.e i:=by
 unfold nameJ zD
 rw[yW,h]
 exact⟨rfl,xq⟩
def Fol{α:Type}(x:Option (Res α))(P:α->Prop)(j:Nat)(b:Int):Prop:=match x with
 |none=>True
 |some (.no p)=>b=p/\0<=p
 |some (.ok a k)=>j=k/\b= -1/\P a
theorem zB{α β:Type}{x:Option (Res α)}{F:α->Nat->Option (Res β)}{P:α->Prop}{Q:β->Prop}{j j2:Nat}{b b2:Int}(h:Fol x P j b)(hs:0<=b->b2=b)(hn:b= -1->∀a,P a->Fol (F a j) Q j2 b2):Fol (andThen x F) Q j2 b2:=by
 cases x with
 |none=>trivial
 |some r=>cases r with
  |no p=>
   obtain⟨h1,h2⟩:=h
   subst h1
   exact⟨hs h2,h2⟩
  |ok a k=>
   obtain⟨h1,h2,h3⟩:=h
   subst h1
   exact hn h2 a h3
theorem xg{α:Type}{a:α}{P:α->Prop}{j:Nat}(h:P a):Fol (some (.ok a j)) P j (-1):=⟨rfl,rfl,h⟩
theorem yI{C:Ctx}{s:ByteArray}{i:Nat}(hpl:∀k,0<=placeOf C.l C.e k):Fol (wantR C s i) (fun _=>True) (zk C i (-1) s) (zn C i (-1) s):=by
 unfold wantR zk zn
 rw[isP_good]
 cases comesB C.l i s with
 |true=>exact⟨rfl,rfl,trivial⟩
 |false=>exact⟨xq,hpl i⟩
theorem zho{C:Ctx}{i:Nat}(hpl:∀k,0<=placeOf C.l C.e k):Fol (yx C i) (fun s=>s=zV C i (-1)) (nameJ C i (-1)) (zD C i (-1)):=by
 unfold yx nameJ zD zV
 rw[yW]
 cases namedB C.l i with
 |true=>exact⟨rfl,rfl,rfl⟩
 |false=>exact⟨xq,hpl i⟩
theorem gC{r:Res (List Tr)}{l:List Nd}{j:Nat}{b:Int}(h:Fol (some r) (fun ts=>l=flatTs ts 1) j b):Ans r l j b:=by
 cases r with
 |ok ts k=>exact h
 |no p=>exact h
theorem PN.fol{C:Ctx}{nt:NT}{i j:Nat}{b':Int}{l:List Nd}(h:PN C nt i (-1) l j b')(f:Nat):Fol (rd C f nt i) (fun ts=>l=flatTs ts 1) j b':=by
 cases hr:rd C f nt i with
 |none=>trivial
 |some r=>
  have:=h.2.2.2.2.2 rfl f r hr
  cases r with
  |ok ts k=>exact this
  |no p=>exact this
theorem pn_of{C:Ctx}{nt:NT}{i j:Nat}{b':Int}{l:List Nd}(h1:i<=j)(h2:l.length<=j-i+bzN nt)(h3:NtOk l)(h4:Vb b')(h:∀f,Fol (rd C (f+1) nt i) (fun ts=>l=flatTs ts 1) j b'):PN C nt i (-1) l j b':=by
 refine⟨h1,h2,h3,h4,fun h=>by omega,fun _ f r hr=>?_⟩
 cases f with
 |zero=>unfold rd at hr;cases hr
 |succ f=>have:=h f;rw[hr] at this;exact gC this
theorem zeT{C:Ctx}{nt:NT}{i:Nat}{b:Int}{l:List Nd}(h:0<=b)(h2:l.length<=bzN nt)(h3:NtOk l):PN C nt i b l i b:=
 ⟨Nat.le_refl _,by omega,h3, .inr h,fun _=>⟨rfl,rfl⟩,fun e=>by omega⟩
theorem nodeL0_length(n:Nd):(nodeL n []).length=1:=rfl
theorem yV{n:Nd}{k:Int}{name:ByteArray}{num op a:Int}(hn:n.kind=k/\n.name=name/\n.num=num/\n.op=op/\n.at_=a):nodeL n []=flatTs [zJ k name num op a []] 1:=
 km hn rfl
theorem nodeL0_ok(n:Nd):NtOk (nodeL n []):=j7 n [] (fun x hx=>by cases hx)
theorem nodeL1_ok(n:Nd)(v:Value)(l:List Nd)(h:NtOk l):NtOk (nodeL n [(v,l)]):=j7 _ _ (fun x hx=>by rw[List.mem_singleton.1 hx];exact h)
theorem ziu{C:Ctx}{i:Nat}(h:comesB C.l i ⟨#[116,114,117,101]⟩=true):PN C .atom i (-1) (nodeL ⟨0,11,zL,1,0,placeOf C.l C.e i⟩ []) (i+1) (-1):=
 pn_of (by omega) (by rw[nodeL0_length];omega) (nodeL0_ok _) (.inl rfl) fun f=>by
  unfold rd
  rw[if_pos h]
  exact xg (yV ⟨rfl,rfl,rfl,rfl,rfl⟩)
theorem zgS{C:Ctx}{i:Nat}(h1:comesB C.l i ⟨#[116,114,117,101]⟩=false)(h:comesB C.l i ⟨#[102,97,108,115,101]⟩=true):PN C .atom i (-1) (nodeL ⟨0,11,zL,0,0,placeOf C.l C.e i⟩ []) (i+1) (-1):=
 pn_of (by omega) (by rw[nodeL0_length];omega) (nodeL0_ok _) (.inl rfl) fun f=>by
  unfold rd
  rw[if_neg (by simp[h1]),if_pos h]
  exact xg (yV ⟨rfl,rfl,rfl,rfl,rfl⟩)
theorem zgR{C:Ctx}{i j:Nat}{b':Int}{l:List Nd}(h1:comesB C.l i ⟨#[116,114,117,101]⟩=false/\comesB C.l i ⟨#[102,97,108,115,101]⟩=false)(h:comesB C.l i ⟨#[40]⟩=true)(hpl:∀k,0<=placeOf C.l C.e k)(hp:PN C (.row 0) (i+1) (-1) l j b'):PN C .atom i (-1) l (zk C j b' ⟨#[41]⟩) (zn C j b' ⟨#[41]⟩):=by
 have g1:=hp.1
 have g2:=hp.2.1
 have g3:j<=zk C j b' ⟨#[41]⟩:=z7
 refine pn_of (by omega) (by simp only[bzN] at g2⊢;omega) hp.2.2.1 (take_vb hpl hp.2.2.2.1) fun f=>?_
 unfold rd
 rw[if_neg (by simp[h1.1]),if_neg (by simp[h1.2]),if_pos h]
 refine zB (hp.fol f) (fun hb=>(zt hb).2) fun hb ts hl=>?_
 subst hb
 refine zB (yI hpl) (fun _=>rfl) fun hb2 _ _=>?_
 rw[hb2]
 exact xg hl
theorem gX{C:Ctx}{i:Nat}(h1:comesB C.l i ⟨#[116,114,117,101]⟩=false/\comesB C.l i ⟨#[102,97,108,115,101]⟩=false)(h3:comesB C.l i ⟨#[40]⟩=false)(h4:namedB C.l i=false)(h5:numbB C.l i=false)(hpl:0<=placeOf C.l C.e i):PN C .atom i (-1) [] i (bad1 C i (-1)):=
 pn_of (by omega) (by simp) .nil (by rw[xq];exact .inr hpl) fun f=>by
  unfold rd
  rw[if_neg (by simp[h1.1]),if_neg (by simp[h1.2]),if_neg (by simp[h3]),if_neg (by simp[h4])]
  unfold z6
  rw[if_neg (by simp[h5])]
  exact⟨xq,hpl⟩
theorem zeS{C:Ctx}{i:Nat}(h:numbB C.l i=true):PN C .atom i (-1) (nodeL ⟨0,10,zL,numAtT C.l i,0,placeOf C.l C.e i⟩ []) (i+1) (-1):=by
 have hc:∀s,comesB C.l i s=false:=by
  intro s
  unfold numbB at h
  unfold comesB
  split at h
  ·rename_i t ht
   try rw[ht]
   simp only[decide_eq_true_eq] at h
   simp[h]
  ·cases h
 have hn:namedB C.l i=false:=by
  unfold numbB at h
  unfold namedB
  split at h
  ·rename_i t ht
   try rw[ht]
   simp only[decide_eq_true_eq] at h
   simp[h]
  ·cases h
 exact pn_of (by omega) (by rw[nodeL0_length];omega) (nodeL0_ok _) (.inl rfl) fun f=>by
  unfold rd
  rw[if_neg (by simp[hc]),if_neg (by simp[hc]),if_neg (by simp[hc]),if_neg (by simp[hn])]
  unfold z6
  rw[if_pos h]
  exact xg (yV ⟨rfl,rfl,rfl,rfl,rfl⟩)
theorem ziw{C:Ctx}{i:Nat}(h1:comesB C.l i ⟨#[116,114,117,101]⟩=false/\comesB C.l i ⟨#[102,97,108,115,101]⟩=false)(h3:comesB C.l i ⟨#[40]⟩=false)(h4:namedB C.l i=true)(h5:comesB C.l (i+1) ⟨#[91]⟩=false):PN C .atom i (-1) (nodeL ⟨0,12,textAt C.l i,0,0,placeOf C.l C.e i⟩ []) (i+1) (-1):=
 pn_of (by omega) (by rw[nodeL0_length];omega) (nodeL0_ok _) (.inl rfl) fun f=>by
  unfold rd
  rw[if_neg (by simp[h1.1]),if_neg (by simp[h1.2]),if_neg (by simp[h3]),if_pos h4,if_neg (by simp[h5])]
  exact xg (yV ⟨rfl,rfl,rfl,rfl,rfl⟩)
theorem zix{C:Ctx}{i j:Nat}{b':Int}{v:Value}{l:List Nd}(h1:comesB C.l i ⟨#[116,114,117,101]⟩=false/\comesB C.l i ⟨#[102,97,108,115,101]⟩=false)(h3:comesB C.l i ⟨#[40]⟩=false)(h4:namedB C.l i=true)(h5:comesB C.l (i+1) ⟨#[91]⟩=true)(hpl:∀k,0<=placeOf C.l C.e k)(hp:PN C (.row 0) (i+1+1) (-1) l j b'):PN C .atom i (-1) (nodeL ⟨0,13,textAt C.l i,0,0,placeOf C.l C.e i⟩ [(v,l)]) (zk C j b' ⟨#[93]⟩) (zn C j b' ⟨#[93]⟩):=by
 have g1:=hp.1
 have g2:=hp.2.1
 have g3:j<=zk C j b' ⟨#[93]⟩:=z7
 refine pn_of (by omega) (by rw[xm];simp only[bzN] at g2⊢;omega) (nodeL1_ok _ _ _ hp.2.2.1) (take_vb hpl hp.2.2.2.1) fun f=>?_
 unfold rd
 rw[if_neg (by simp[h1.1]),if_neg (by simp[h1.2]),if_neg (by simp[h3]),if_pos h4,if_pos h5]
 refine zB (hp.fol f) (fun hb=>(zt hb).2) fun hb ts hl=>?_
 subst hb
 refine zB (yI hpl) (fun _=>rfl) fun hb2 _ _=>?_
 rw[hb2]
 subst hl
 exact xg (qB ⟨rfl,rfl,rfl,rfl,rfl⟩)
theorem zfp{n:Nat}(h:n<=8193):IntKind.i64.wrap (n:Int)=n:=by simp[IntKind.wrap,IntKind.bits,IntKind.signed];omega
theorem PAll.expr0{C:Ctx}{N:Nat}(H:PAll C N)(i:Nat)(b:Int)(w:World)(h:RP C i b w)(hv:Vb b)(hm:remP C i b*20+8<N):Calls Tryz.prog 93 #[.pointer (some ⟨C.r,0,none⟩), .int .i64 0] w (yG C w (PN C (.row 0) i b)):=
 H.expr 0 i b w (by omega) h hv hm
theorem PSt.inc2{C:Ctx}{w wk:World}{R i:Nat}{b:Int}(h:PSt C w R i b wk)(hlt:i<C.l.length):PSt C w (C.l.length-(i+1)+1) (i+1) b (wk.setCell ⟨C.r,1,none⟩ (.int .i64 (((i:Nat):Int)+1))):=by
 refine⟨?_,h.gr.setCell _ _,h.vb,?_⟩
 ·have:=h.rp.setAt (j:=i+1) hlt
  simpa using this
 ·unfold remP;split<;>omega
theorem PS.rem{C:Ctx}{i j:Nat}{b':Int}{l:List Nd}(h:PS C i l j b'):remP C j b'<=remP C i (-1):=by
 have:=h.1
 rw[remP_good (C:=C) (i:=i) (b:= -1) (by omega)]
 unfold remP
 split<;>omega
theorem PSt.subS{C:Ctx}{w wk w':World}{R i j:Nat}{b':Int}{l:List Nd}(h:PSt C w R i (-1) wk)(h1:RP C j b' w')(h2:Gr C.r wk w')(hp:PS C i l j b'):PSt C w R j b' w':=⟨h1,h.gr.trans h2,hp.2.2.2.1,Nat.le_trans hp.rem h.rem⟩
theorem RP.full{C:Ctx}{i:Nat}{b:Int}{w:World}(h:RP C i b w){t:Item}(ht:C.l[i]? =some t):∃cap,C.l.length<=cap/\w.cell? ⟨C.r,0,none⟩=some (.slice (some ⟨C.g,0,none⟩) C.l.length cap)/\w.cell? ⟨C.r,1,none⟩=some (.int .i64 i)/\w.frozen? ⟨C.r,1,none⟩=false/\w.cell? ⟨C.r,3,none⟩=some (.int .i64 b)/\w.cell? ⟨C.g,i*4,none⟩=some (.int .i64 t.kind)/\w.cell? ⟨C.g,i*4+2,none⟩=some (.int .i64 t.num)/\¬C.r=C.g:=by
 obtain⟨bo,cap,hb,hcap,h0,h1,_,h3,hf,_⟩:=h.cells
 have hne:C.l≠[]:=by rintro e;rw[e] at ht;simp at ht
 obtain rfl:=hb hne
 exact⟨cap,hcap,h0,h1,hf,h3,h.toks.kind i t ht,h.toks.num i t ht,fun e=>h.ne hne e.symm⟩
theorem zfA{C:Ctx}{N:Nat}(IH:PAll C N)(i:Nat)(b:Int)(w:World)(h:RP C i b w)(hv:Vb b)(hm:remP C i b*20+1<=N):Calls Tryz.prog 159 #[.pointer (some ⟨C.r,0,none⟩)] w (yG C w (PN C .atom i b)):=by
 have hS:=PSt.start h hv
 have hrl:=h.lt
 have hlen:=h.len
 have HPL:Hid (∀k,0<=placeOf C.l C.e k):=Lib.hid (yA h)
 obtain⟨q1,qf,q3⟩:=h.at1
 generalize hQ:yG C w (PN C .atom i b)=Q
 have HQ:Hid (∀v l j b' w',w'.ownsRow w.heap.size 50 6 v l.length (ndCells l)->RP C j b' w'->Gr C.r w w'->PN C .atom i b l j b'->Q (.returned v) w'):=Lib.hid (fun v l j b' w' h1 h2 h3 h4=>by rw[<-hQ];exact⟨v,l,j,b',rfl,h1,h2,h3,h4⟩)
 clear hQ
 have HIH:=Lib.hid IH
 clear IH
 rcases hv with hb|HB
 ·subst hb
  rw[remP_good (by omega)] at hm
  by_cases hlt:i<C.l.length
  ·obtain⟨t,ht⟩:∃t,C.l[i]? =some t:=⟨_,List.getElem?_eq_getElem hlt⟩
   have HT:=Lib.hid ht
   have HLT:=Lib.hid hlt
   clear ht
   by_cases hk:t.kind=1
   ·have hk1:(t.kind==1)=true:=by simp[hk]
    have HF:Hid (PN C .atom i (-1) (nodeL ⟨0,10,⟨#[]⟩,t.num,0,placeOf C.l C.e i⟩ []) (i+1) (-1)):=Lib.hid (by
     have e:numAtT C.l i=t.num:=by unfold numAtT;rw[HT.out]
     rw[<-e]
     exact zeS (by unfold numbB;rw[HT.out];exact decide_eq_true hk))
    clear h
    go_enter Tryz.func159,Tryz.ntmps159
    go_wp2_with (first|(go_at_call 88;with_reducible refine(zr C _ _ _ hS.rp).mono ?_;rintro e w' ⟨rfl,K⟩;replace hS:=hS.kin K;clear q1 qf q3;obtain⟨q1,qf,q3⟩:=hS.rp.at1;skip;clear K))
    obtain⟨cap,hcap,q0,_,_,_,tk,tn,hrg⟩:=hS.rp.full HT.out
    rw[hk] at tk
    go_quiet (fail)
    rename_i nq
    replace hS:=hS.kin ((Kin.refl _).drewN nq)
    generalize World.drewN _ nq=wq at hS⊢
    clear q1 qf q3
    obtain⟨q1,qf,q3⟩:=hS.rp.at1
    clear q0 tk tn
    obtain⟨cap,hcap,q0,_,_,_,tk,tn,hrg⟩:=hS.rp.full HT.out
    rw[hk] at tk
    go_wp2_with fail
    have hS2:=hS.inc2 HLT.out
    generalize World.setCell _ ⟨C.r,1,none⟩ (.int .i64 (((i:Nat):Int)+1))=wJ at hS2⊢
    clear hS q1 qf q3 q0 tk tn hcap
    have hS:=hS2
    clear hS2
    obtain⟨bo,cap2,hbo,hcap,q0,q1,_⟩:=hS.rp.cells
    obtain rfl:=hbo (by rintro e;rw[e] at hlt;simp at hlt)
    have tn:=hS.rp.toks.num i t HT.out
    rw[show(((i+1:Nat)):Int)=(i:Int)+1 from by simp] at q1
    have hwi:=zfp (n:=i) (by omega)
    go_still_tail 14,(by kernel_rfl)
    replace hS:=hS.kin ((Kin.refl _).drewN 1)
    change wpList _ _ _ _ _ (World.drew _)
    change PSt C w _ (i+1) (-1) (World.drew _) at hS
    generalize World.drew _=wI at hS⊢
    clear q1 q0 tn
    go_wp2_with (first|(go_at_call 91;with_reducible refine(qT ⟨0,10,⟨#[]⟩,t.num,0,placeOf C.l C.e i⟩ w.heap.size _ hS.gr.size).mono ?_;rintro e w' ⟨v,rfl,ho2,K2⟩;replace hS:=hS.kin K2;clear K2))
    exact HQ.out _ _ _ _ _ ho2 hS.rp hS.gr HF.out
   ·have hk1:(t.kind==1)=false:=by simp[hk]
    cases xI1:comesB C.l i ⟨#[116,114,117,101]⟩ with
    |true=>
     have I1:Hid (isP C i (-1) ⟨#[116,114,117,101]⟩=true):=Lib.hid (by rw[isP_good];exact xI1)
     have HF:Hid (PN C .atom i (-1) (nodeL ⟨0,11,⟨#[]⟩,1,0,placeOf C.l C.e i⟩ []) (i+1) (-1)):=Lib.hid (ziu xI1)
     clear h
     go_enter Tryz.func159,Tryz.ntmps159
     go_wp2_with (first|(go_at_call 88;with_reducible refine(zr C _ _ _ hS.rp).mono ?_;rintro e w' ⟨rfl,K⟩;replace hS:=hS.kin K;clear q1 qf q3;obtain⟨q1,qf,q3⟩:=hS.rp.at1;skip;clear K))
     obtain⟨cap,hcap,q0,_,_,_,tk,tn,hrg⟩:=hS.rp.full HT.out
     go_quiet (fail)
     rename_i nq
     replace hS:=hS.kin ((Kin.refl _).drewN nq)
     generalize World.drewN _ nq=wq at hS⊢
     clear q1 qf q3
     obtain⟨q1,qf,q3⟩:=hS.rp.at1
     clear q0 tk tn
     go_upto_region 7 with(first|(go_at_call 46;with_reducible refine(za C _ _ ⟨#[116,114,117,101]⟩ _ hS.rp).mono ?_;rintro e w' ⟨rfl,K⟩;replace hS:=hS.kin K;clear q1 qf q3;obtain⟨q1,qf,q3⟩:=hS.rp.at1;skip;rw[I1.out];clear K))
     have hS2:=hS.inc2 HLT.out
     generalize World.setCell _ ⟨C.r,1,none⟩ (.int .i64 (((i:Nat):Int)+1))=wI at hS2⊢
     clear hS q1 qf q3
     have hS:=hS2
     clear hS2
     obtain⟨q1,qf,q3⟩:=hS.rp.at1
     go_wp2_with (first|(go_at_call 91;with_reducible refine(qT ⟨0,11,⟨#[]⟩,1,0,placeOf C.l C.e i⟩ w.heap.size _ hS.gr.size).mono ?_;rintro e w' ⟨v,rfl,ho2,K2⟩;replace hS:=hS.kin K2;clear K2))
     exact HQ.out _ _ _ _ _ ho2 hS.rp hS.gr HF.out
    |false=>
     cases xI2:comesB C.l i ⟨#[102,97,108,115,101]⟩ with
     |true=>
      have I1:Hid (isP C i (-1) ⟨#[116,114,117,101]⟩=false):=Lib.hid (by rw[isP_good];exact xI1)
      have I2:Hid (isP C i (-1) ⟨#[102,97,108,115,101]⟩=true):=Lib.hid (by rw[isP_good];exact xI2)
      have HF:Hid (PN C .atom i (-1) (nodeL ⟨0,11,⟨#[]⟩,0,0,placeOf C.l C.e i⟩ []) (i+1) (-1)):=Lib.hid (zgS xI1 xI2)
      clear h
      go_enter Tryz.func159,Tryz.ntmps159
      go_wp2_with (first|(go_at_call 88;with_reducible refine(zr C _ _ _ hS.rp).mono ?_;rintro e w' ⟨rfl,K⟩;replace hS:=hS.kin K;clear q1 qf q3;obtain⟨q1,qf,q3⟩:=hS.rp.at1;skip;clear K))
      obtain⟨cap,hcap,q0,_,_,_,tk,tn,hrg⟩:=hS.rp.full HT.out
      go_quiet (fail)
      rename_i nq
      replace hS:=hS.kin ((Kin.refl _).drewN nq)
      generalize World.drewN _ nq=wq at hS⊢
      clear q1 qf q3
      obtain⟨q1,qf,q3⟩:=hS.rp.at1
      clear q0 tk tn
      go_upto_region 10 with(first|(go_at_call 46;with_reducible refine(za C _ _ ⟨#[116,114,117,101]⟩ _ hS.rp).mono ?_;rintro e w' ⟨rfl,K⟩;replace hS:=hS.kin K;clear q1 qf q3;obtain⟨q1,qf,q3⟩:=hS.rp.at1;skip;rw[I1.out];clear K)|(go_at_call 46;with_reducible refine(za C _ _ ⟨#[102,97,108,115,101]⟩ _ hS.rp).mono ?_;rintro e w' ⟨rfl,K⟩;replace hS:=hS.kin K;clear q1 qf q3;obtain⟨q1,qf,q3⟩:=hS.rp.at1;skip;rw[I2.out];clear K))
      have hS2:=hS.inc2 HLT.out
      generalize World.setCell _ ⟨C.r,1,none⟩ (.int .i64 (((i:Nat):Int)+1))=wI at hS2⊢
      clear hS q1 qf q3
      have hS:=hS2
      clear hS2
      obtain⟨q1,qf,q3⟩:=hS.rp.at1
      go_wp2_with (first|(go_at_call 91;with_reducible refine(qT ⟨0,11,⟨#[]⟩,0,0,placeOf C.l C.e i⟩ w.heap.size _ hS.gr.size).mono ?_;rintro e w' ⟨v,rfl,ho2,K2⟩;replace hS:=hS.kin K2;clear K2))
      exact HQ.out _ _ _ _ _ ho2 hS.rp hS.gr HF.out
     |false=>
      cases xI3:comesB C.l i ⟨#[40]⟩ with
      |true=>
       have I1:Hid (isP C i (-1) ⟨#[116,114,117,101]⟩=false):=Lib.hid (by rw[isP_good];exact xI1)
       have I2:Hid (isP C i (-1) ⟨#[102,97,108,115,101]⟩=false):=Lib.hid (by rw[isP_good];exact xI2)
       have I3:Hid (isP C i (-1) ⟨#[40]⟩=true):=Lib.hid (by rw[isP_good];exact xI3)
       have HF:Hid (∀l j b',PN C (.row 0) (i+1) (-1) l j b'->PN C .atom i (-1) l (zk C j b' ⟨#[41]⟩) (zn C j b' ⟨#[41]⟩)):=Lib.hid (fun l j b' hp=>zgR ⟨xI1,xI2⟩ xI3 HPL.out hp)
       clear h
       go_enter Tryz.func159,Tryz.ntmps159
       go_wp2_with (first|(go_at_call 88;with_reducible refine(zr C _ _ _ hS.rp).mono ?_;rintro e w' ⟨rfl,K⟩;replace hS:=hS.kin K;clear q1 qf q3;obtain⟨q1,qf,q3⟩:=hS.rp.at1;skip;clear K))
       obtain⟨cap,hcap,q0,_,_,_,tk,tn,hrg⟩:=hS.rp.full HT.out
       go_quiet (fail)
       rename_i nq
       replace hS:=hS.kin ((Kin.refl _).drewN nq)
       generalize World.drewN _ nq=wq at hS⊢
       clear q1 qf q3
       obtain⟨q1,qf,q3⟩:=hS.rp.at1
       clear q0 tk tn
       go_upto_region 13 with(first|(go_at_call 46;with_reducible refine(za C _ _ ⟨#[116,114,117,101]⟩ _ hS.rp).mono ?_;rintro e w' ⟨rfl,K⟩;replace hS:=hS.kin K;clear q1 qf q3;obtain⟨q1,qf,q3⟩:=hS.rp.at1;skip;rw[I1.out];clear K)|(go_at_call 46;with_reducible refine(za C _ _ ⟨#[102,97,108,115,101]⟩ _ hS.rp).mono ?_;rintro e w' ⟨rfl,K⟩;replace hS:=hS.kin K;clear q1 qf q3;obtain⟨q1,qf,q3⟩:=hS.rp.at1;skip;rw[I2.out];clear K)|(go_at_call 46;with_reducible refine(za C _ _ ⟨#[40]⟩ _ hS.rp).mono ?_;rintro e w' ⟨rfl,K⟩;replace hS:=hS.kin K;clear q1 qf q3;obtain⟨q1,qf,q3⟩:=hS.rp.at1;skip;rw[I3.out];clear K))
       have hS2:=hS.inc2 HLT.out
       generalize World.setCell _ ⟨C.r,1,none⟩ (.int .i64 (((i:Nat):Int)+1))=wI at hS2⊢
       clear hS q1 qf q3
       have hS:=hS2
       clear hS2
       obtain⟨q1,qf,q3⟩:=hS.rp.at1
       go_wp2_with (first|(go_at_call 93;with_reducible refine(HIH.out.expr0 _ _ _ hS.rp hS.vb (by have:=hS.rem;omega)).mono ?_;rintro e w' ⟨v1,l1,j1,b1,rfl,ho,hR,G,hP1⟩;obtain⟨bo1,m1,c1,rfl⟩:=zP ho;skip;have hl1:=lst_of ho hS.gr.size hP1 hR;replace hS:=hS.sub hR G hP1;clear q1 qf q3;obtain⟨q1,qf,q3⟩:=hS.rp.at1;clear ho hR G)|(go_at_call 90;with_reducible refine(zA C _ _ ⟨#[41]⟩ _ hS.rp).mono ?_;rintro e w' ⟨rfl,hR,hG⟩;have G:=Gr.of_grew hG;replace hl1:=hl1.gr G hrl;replace hS:=hS.take hR hG;clear q1 qf q3;obtain⟨q1,qf,q3⟩:=hS.rp.at1;clear hR hG G))
       exact HQ.out _ _ _ _ _ hl1.1 hS.rp hS.gr (HF.out _ _ _ hP1)
      |false=>
       cases xI4:namedB C.l i with
       |false=>
        have I1:Hid (isP C i (-1) ⟨#[116,114,117,101]⟩=false):=Lib.hid (by rw[isP_good];exact xI1)
        have I2:Hid (isP C i (-1) ⟨#[102,97,108,115,101]⟩=false):=Lib.hid (by rw[isP_good];exact xI2)
        have I3:Hid (isP C i (-1) ⟨#[40]⟩=false):=Lib.hid (by rw[isP_good];exact xI3)
        have I4:Hid (namedP C i (-1)=false):=Lib.hid (by rw[yW];exact xI4)
        have HF:Hid (PN C .atom i (-1) [] i (bad1 C i (-1))):=Lib.hid (gX ⟨xI1,xI2⟩ xI3 xI4 (by unfold numbB;rw[HT.out];exact decide_eq_false hk) (HPL.out i))
        clear h
        go_enter Tryz.func159,Tryz.ntmps159
        go_wp2_with (first|(go_at_call 88;with_reducible refine(zr C _ _ _ hS.rp).mono ?_;rintro e w' ⟨rfl,K⟩;replace hS:=hS.kin K;clear q1 qf q3;obtain⟨q1,qf,q3⟩:=hS.rp.at1;skip;clear K))
        obtain⟨cap,hcap,q0,_,_,_,tk,tn,hrg⟩:=hS.rp.full HT.out
        go_quiet (fail)
        rename_i nq
        replace hS:=hS.kin ((Kin.refl _).drewN nq)
        generalize World.drewN _ nq=wq at hS⊢
        clear q1 qf q3
        obtain⟨q1,qf,q3⟩:=hS.rp.at1
        clear q0 tk tn
        go_wp2_with (first|(go_at_call 46;with_reducible refine(za C _ _ ⟨#[116,114,117,101]⟩ _ hS.rp).mono ?_;rintro e w' ⟨rfl,K⟩;replace hS:=hS.kin K;clear q1 qf q3;obtain⟨q1,qf,q3⟩:=hS.rp.at1;skip;rw[I1.out];clear K)|(go_at_call 46;with_reducible refine(za C _ _ ⟨#[102,97,108,115,101]⟩ _ hS.rp).mono ?_;rintro e w' ⟨rfl,K⟩;replace hS:=hS.kin K;clear q1 qf q3;obtain⟨q1,qf,q3⟩:=hS.rp.at1;skip;rw[I2.out];clear K)|(go_at_call 46;with_reducible refine(za C _ _ ⟨#[40]⟩ _ hS.rp).mono ?_;rintro e w' ⟨rfl,K⟩;replace hS:=hS.kin K;clear q1 qf q3;obtain⟨q1,qf,q3⟩:=hS.rp.at1;skip;rw[I3.out];clear K)|(go_at_call 129;with_reducible refine(qv C _ _ _ hS.rp).mono ?_;rintro e w' ⟨rfl,K⟩;replace hS:=hS.kin K;clear q1 qf q3;obtain⟨q1,qf,q3⟩:=hS.rp.at1;skip;rw[I4.out];clear K)|(go_at_call 92;with_reducible refine(xJ C _ _ _ hS.rp).mono ?_;rintro e w' ⟨rfl,hR,hG⟩;have G:=Gr.of_grew hG;skip;replace hS:=hS.fail hR hG;clear q1 qf q3;obtain⟨q1,qf,q3⟩:=hS.rp.at1;clear hR hG G))
        exact HQ.out _ _ _ _ _ (World.ownsRow_nil _ _ _ _) hS.rp hS.gr HF.out
       |true=>
        cases xI5:comesB C.l (i+1) ⟨#[91]⟩ with
        |false=>
         have I1:Hid (isP C i (-1) ⟨#[116,114,117,101]⟩=false):=Lib.hid (by rw[isP_good];exact xI1)
         have I2:Hid (isP C i (-1) ⟨#[102,97,108,115,101]⟩=false):=Lib.hid (by rw[isP_good];exact xI2)
         have I3:Hid (isP C i (-1) ⟨#[40]⟩=false):=Lib.hid (by rw[isP_good];exact xI3)
         obtain⟨hnj,hnb,hnt⟩:=qM xI4
         have I4:Hid (namedP C i (-1)=true):=Lib.hid (by rw[yW];exact xI4)
         have I5:Hid (isP C (nameJ C i (-1)) (zD C i (-1)) ⟨#[91]⟩=false):=Lib.hid (by rw[hnj,hnb,isP_good];exact xI5)
         have HF:Hid (PN C .atom i (-1) (nodeL ⟨0,12,zV C i (-1),0,0,placeOf C.l C.e i⟩ []) (nameJ C i (-1)) (zD C i (-1))):=Lib.hid (by rw[hnj,hnb,hnt];exact ziw ⟨xI1,xI2⟩ xI3 xI4 xI5)
         clear hnj hnb hnt
         clear h
         go_enter Tryz.func159,Tryz.ntmps159
         go_wp2_with (first|(go_at_call 88;with_reducible refine(zr C _ _ _ hS.rp).mono ?_;rintro e w' ⟨rfl,K⟩;replace hS:=hS.kin K;clear q1 qf q3;obtain⟨q1,qf,q3⟩:=hS.rp.at1;skip;clear K))
         obtain⟨cap,hcap,q0,_,_,_,tk,tn,hrg⟩:=hS.rp.full HT.out
         go_quiet (fail)
         rename_i nq
         replace hS:=hS.kin ((Kin.refl _).drewN nq)
         generalize World.drewN _ nq=wq at hS⊢
         clear q1 qf q3
         obtain⟨q1,qf,q3⟩:=hS.rp.at1
         clear q0 tk tn
         go_wp2_with (first|(go_at_call 46;with_reducible refine(za C _ _ ⟨#[116,114,117,101]⟩ _ hS.rp).mono ?_;rintro e w' ⟨rfl,K⟩;replace hS:=hS.kin K;clear q1 qf q3;obtain⟨q1,qf,q3⟩:=hS.rp.at1;skip;rw[I1.out];clear K)|(go_at_call 46;with_reducible refine(za C _ _ ⟨#[102,97,108,115,101]⟩ _ hS.rp).mono ?_;rintro e w' ⟨rfl,K⟩;replace hS:=hS.kin K;clear q1 qf q3;obtain⟨q1,qf,q3⟩:=hS.rp.at1;skip;rw[I2.out];clear K)|(go_at_call 46;with_reducible refine(za C _ _ ⟨#[40]⟩ _ hS.rp).mono ?_;rintro e w' ⟨rfl,K⟩;replace hS:=hS.kin K;clear q1 qf q3;obtain⟨q1,qf,q3⟩:=hS.rp.at1;skip;rw[I3.out];clear K)|(go_at_call 129;with_reducible refine(qv C _ _ _ hS.rp).mono ?_;rintro e w' ⟨rfl,K⟩;replace hS:=hS.kin K;clear q1 qf q3;obtain⟨q1,qf,q3⟩:=hS.rp.at1;skip;rw[I4.out];clear K)|(go_at_call 89;with_reducible refine(xL C _ _ _ hS.rp).mono ?_;rintro e w' ⟨rfl,hR,G⟩;skip;replace hS:=hS.name hR G;clear q1 qf q3;obtain⟨q1,qf,q3⟩:=hS.rp.at1;clear hR G)|(go_at_call 46;with_reducible refine(za C _ _ ⟨#[91]⟩ _ hS.rp).mono ?_;rintro e w' ⟨rfl,K⟩;replace hS:=hS.kin K;clear q1 qf q3;obtain⟨q1,qf,q3⟩:=hS.rp.at1;skip;rw[I5.out];clear K)|(go_at_call 91;with_reducible refine(qT ⟨0,12,zV C i (-1),0,0,placeOf C.l C.e i⟩ w.heap.size _ hS.gr.size).mono ?_;rintro e w' ⟨v,rfl,ho2,K2⟩;replace hS:=hS.kin K2;clear K2))
         exact HQ.out _ _ _ _ _ ho2 hS.rp hS.gr HF.out
        |true=>
         have I1:Hid (isP C i (-1) ⟨#[116,114,117,101]⟩=false):=Lib.hid (by rw[isP_good];exact xI1)
         have I2:Hid (isP C i (-1) ⟨#[102,97,108,115,101]⟩=false):=Lib.hid (by rw[isP_good];exact xI2)
         have I3:Hid (isP C i (-1) ⟨#[40]⟩=false):=Lib.hid (by rw[isP_good];exact xI3)
         obtain⟨hnj,hnb,hnt⟩:=qM xI4
         have I4:Hid (namedP C i (-1)=true):=Lib.hid (by rw[yW];exact xI4)
         have I5:Hid (isP C (nameJ C i (-1)) (zD C i (-1)) ⟨#[91]⟩=true):=Lib.hid (by rw[hnj,hnb,isP_good];exact xI5)
         have HF:Hid (∀v l j b',PN C (.row 0) (nameJ C i (-1)+1) (zD C i (-1)) l j b'->PN C .atom i (-1) (nodeL ⟨0,13,zV C i (-1),0,0,placeOf C.l C.e i⟩ [(v,l)]) (zk C j b' ⟨#[93]⟩) (zn C j b' ⟨#[93]⟩)):=Lib.hid (fun v l j b' hp=>by rw[hnj,hnb] at hp;rw[hnt];exact zix ⟨xI1,xI2⟩ xI3 xI4 xI5 HPL.out hp)
         have HLT:Hid (nameJ C i (-1)<C.l.length):=Lib.hid (by rw[hnj];exact comes_lt xI5)
         have hm2:(C.l.length-(nameJ C i (-1)+1)+1)*20+9<N:=by rw[hnj];omega
         have hltJ:=HLT.out
         clear hnj hnb hnt
         clear h
         go_enter Tryz.func159,Tryz.ntmps159
         go_wp2_with (first|(go_at_call 88;with_reducible refine(zr C _ _ _ hS.rp).mono ?_;rintro e w' ⟨rfl,K⟩;replace hS:=hS.kin K;clear q1 qf q3;obtain⟨q1,qf,q3⟩:=hS.rp.at1;skip;clear K))
         obtain⟨cap,hcap,q0,_,_,_,tk,tn,hrg⟩:=hS.rp.full HT.out
         go_quiet (fail)
         rename_i nq
         replace hS:=hS.kin ((Kin.refl _).drewN nq)
         generalize World.drewN _ nq=wq at hS⊢
         clear q1 qf q3
         obtain⟨q1,qf,q3⟩:=hS.rp.at1
         clear q0 tk tn
         go_upto_region 23 with(first|(go_at_call 46;with_reducible refine(za C _ _ ⟨#[116,114,117,101]⟩ _ hS.rp).mono ?_;rintro e w' ⟨rfl,K⟩;replace hS:=hS.kin K;clear q1 qf q3;obtain⟨q1,qf,q3⟩:=hS.rp.at1;skip;rw[I1.out];clear K)|(go_at_call 46;with_reducible refine(za C _ _ ⟨#[102,97,108,115,101]⟩ _ hS.rp).mono ?_;rintro e w' ⟨rfl,K⟩;replace hS:=hS.kin K;clear q1 qf q3;obtain⟨q1,qf,q3⟩:=hS.rp.at1;skip;rw[I2.out];clear K)|(go_at_call 46;with_reducible refine(za C _ _ ⟨#[40]⟩ _ hS.rp).mono ?_;rintro e w' ⟨rfl,K⟩;replace hS:=hS.kin K;clear q1 qf q3;obtain⟨q1,qf,q3⟩:=hS.rp.at1;skip;rw[I3.out];clear K)|(go_at_call 129;with_reducible refine(qv C _ _ _ hS.rp).mono ?_;rintro e w' ⟨rfl,K⟩;replace hS:=hS.kin K;clear q1 qf q3;obtain⟨q1,qf,q3⟩:=hS.rp.at1;skip;rw[I4.out];clear K)|(go_at_call 89;with_reducible refine(xL C _ _ _ hS.rp).mono ?_;rintro e w' ⟨rfl,hR,G⟩;skip;replace hS:=hS.name hR G;clear q1 qf q3;obtain⟨q1,qf,q3⟩:=hS.rp.at1;clear hR G)|(go_at_call 46;with_reducible refine(za C _ _ ⟨#[91]⟩ _ hS.rp).mono ?_;rintro e w' ⟨rfl,K⟩;replace hS:=hS.kin K;clear q1 qf q3;obtain⟨q1,qf,q3⟩:=hS.rp.at1;skip;rw[I5.out];clear K))
         have hS2:=hS.inc2 HLT.out
         generalize World.setCell _ ⟨C.r,1,none⟩ (.int .i64 (((nameJ C i (-1):Nat):Int)+1))=wI at hS2⊢
         clear hS q1 qf q3
         have hS:=hS2
         clear hS2
         obtain⟨q1,qf,q3⟩:=hS.rp.at1
         go_wp2_with (first|(go_at_call 93;with_reducible refine(HIH.out.expr0 _ _ _ hS.rp hS.vb (by have:=hS.rem;omega)).mono ?_;rintro e w' ⟨v1,l1,j1,b1,rfl,ho,hR,G,hP1⟩;obtain⟨bo1,m1,c1,rfl⟩:=zP ho;skip;have hl1:=lst_of ho hS.gr.size hP1 hR;replace hS:=hS.sub hR G hP1;clear q1 qf q3;obtain⟨q1,qf,q3⟩:=hS.rp.at1;clear ho hR G)|(go_at_call 90;with_reducible refine(zA C _ _ ⟨#[93]⟩ _ hS.rp).mono ?_;rintro e w' ⟨rfl,hR,hG⟩;have G:=Gr.of_grew hG;replace hl1:=hl1.gr G hrl;replace hS:=hS.take hR hG;clear q1 qf q3;obtain⟨q1,qf,q3⟩:=hS.rp.at1;clear hR hG G)|(go_at_call 91;with_reducible refine(node1 ⟨0,13,zV C i (-1),0,0,placeOf C.l C.e i⟩ w.heap.size _ hS.gr.size (_,l1) hl1).mono ?_;rintro e w' ⟨v,rfl,ho2,K2⟩;replace hS:=hS.kin K2;clear K2))
         exact HQ.out _ _ _ _ _ ho2 hS.rp hS.gr (HF.out _ _ _ _ hP1)
  ·have hdd:decide ((i:Int)<(C.l.length:Int))=false:=decide_eq_false (by omega)
   have hnone:C.l[i]? =none:=List.getElem?_eq_none (by omega)
   have I1:Hid (isP C i (-1) ⟨#[116,114,117,101]⟩=false):=Lib.hid (by rw[isP_good];unfold comesB;rw[hnone])
   have I2:Hid (isP C i (-1) ⟨#[102,97,108,115,101]⟩=false):=Lib.hid (by rw[isP_good];unfold comesB;rw[hnone])
   have I3:Hid (isP C i (-1) ⟨#[40]⟩=false):=Lib.hid (by rw[isP_good];unfold comesB;rw[hnone])
   have I4:Hid (namedP C i (-1)=false):=Lib.hid (by rw[yW];unfold namedB;rw[hnone])
   have HF:Hid (PN C .atom i (-1) [] i (bad1 C i (-1))):=Lib.hid (gX ⟨by unfold comesB;rw[hnone],by unfold comesB;rw[hnone]⟩ (by unfold comesB;rw[hnone]) (by unfold namedB;rw[hnone]) (by unfold numbB;rw[hnone]) (HPL.out i))
   clear h hnone
   go_enter Tryz.func159,Tryz.ntmps159
   go_wp2_with (first|(go_at_call 88;with_reducible refine(zr C _ _ _ hS.rp).mono ?_;rintro e w' ⟨rfl,K⟩;replace hS:=hS.kin K;clear q1 qf q3;obtain⟨q1,qf,q3⟩:=hS.rp.at1;skip;clear K))
   obtain⟨bo,cap,hbo,hcap,q0,_⟩:=hS.rp.cells
   clear hbo
   go_quiet (fail)
   rename_i nq
   replace hS:=hS.kin ((Kin.refl _).drewN nq)
   generalize World.drewN _ nq=wq at hS⊢
   clear q1 qf q3
   obtain⟨q1,qf,q3⟩:=hS.rp.at1
   clear q0
   go_wp2_with (first|(go_at_call 46;with_reducible refine(za C _ _ ⟨#[116,114,117,101]⟩ _ hS.rp).mono ?_;rintro e w' ⟨rfl,K⟩;replace hS:=hS.kin K;clear q1 qf q3;obtain⟨q1,qf,q3⟩:=hS.rp.at1;skip;rw[I1.out];clear K)|(go_at_call 46;with_reducible refine(za C _ _ ⟨#[102,97,108,115,101]⟩ _ hS.rp).mono ?_;rintro e w' ⟨rfl,K⟩;replace hS:=hS.kin K;clear q1 qf q3;obtain⟨q1,qf,q3⟩:=hS.rp.at1;skip;rw[I2.out];clear K)|(go_at_call 46;with_reducible refine(za C _ _ ⟨#[40]⟩ _ hS.rp).mono ?_;rintro e w' ⟨rfl,K⟩;replace hS:=hS.kin K;clear q1 qf q3;obtain⟨q1,qf,q3⟩:=hS.rp.at1;skip;rw[I3.out];clear K)|(go_at_call 129;with_reducible refine(qv C _ _ _ hS.rp).mono ?_;rintro e w' ⟨rfl,K⟩;replace hS:=hS.kin K;clear q1 qf q3;obtain⟨q1,qf,q3⟩:=hS.rp.at1;skip;rw[I4.out];clear K)|(go_at_call 92;with_reducible refine(xJ C _ _ _ hS.rp).mono ?_;rintro e w' ⟨rfl,hR,hG⟩;have G:=Gr.of_grew hG;skip;replace hS:=hS.fail hR hG;clear q1 qf q3;obtain⟨q1,qf,q3⟩:=hS.rp.at1;clear hR hG G))
   exact HQ.out _ _ _ _ _ (World.ownsRow_nil _ _ _ _) hS.rp hS.gr HF.out
 ·have hb0:0<=b:=HB
  have hd:decide (b<0)=false:=decide_eq_false (by omega)
  have I1:Hid (isP C i b ⟨#[116,114,117,101]⟩=false):=Lib.hid (uj HB)
  have I2:Hid (isP C i b ⟨#[102,97,108,115,101]⟩=false):=Lib.hid (uj HB)
  have I3:Hid (isP C i b ⟨#[40]⟩=false):=Lib.hid (uj HB)
  have I4:Hid (namedP C i b=false):=Lib.hid (zdG HB)
  have HF:Hid (PN C .atom i b [] i (bad1 C i b)):=Lib.hid (by rw[uS HB];exact zeT HB (by simp) .nil)
  clear h
  go_enter Tryz.func159,Tryz.ntmps159
  go_wp2_with (first|(go_at_call 88;with_reducible refine(zr C _ _ _ hS.rp).mono ?_;rintro e w' ⟨rfl,K⟩;replace hS:=hS.kin K;clear q1 qf q3;obtain⟨q1,qf,q3⟩:=hS.rp.at1;skip;clear K))
  obtain⟨bo,cap,hbo,hcap,q0,_⟩:=hS.rp.cells
  clear hbo
  go_quiet (fail)
  rename_i nq
  replace hS:=hS.kin ((Kin.refl _).drewN nq)
  generalize World.drewN _ nq=wq at hS⊢
  clear q1 qf q3
  obtain⟨q1,qf,q3⟩:=hS.rp.at1
  clear q0
  go_wp2_with (first|(go_at_call 46;with_reducible refine(za C _ _ ⟨#[116,114,117,101]⟩ _ hS.rp).mono ?_;rintro e w' ⟨rfl,K⟩;replace hS:=hS.kin K;clear q1 qf q3;obtain⟨q1,qf,q3⟩:=hS.rp.at1;skip;rw[I1.out];clear K)|(go_at_call 46;with_reducible refine(za C _ _ ⟨#[102,97,108,115,101]⟩ _ hS.rp).mono ?_;rintro e w' ⟨rfl,K⟩;replace hS:=hS.kin K;clear q1 qf q3;obtain⟨q1,qf,q3⟩:=hS.rp.at1;skip;rw[I2.out];clear K)|(go_at_call 46;with_reducible refine(za C _ _ ⟨#[40]⟩ _ hS.rp).mono ?_;rintro e w' ⟨rfl,K⟩;replace hS:=hS.kin K;clear q1 qf q3;obtain⟨q1,qf,q3⟩:=hS.rp.at1;skip;rw[I3.out];clear K)|(go_at_call 129;with_reducible refine(qv C _ _ _ hS.rp).mono ?_;rintro e w' ⟨rfl,K⟩;replace hS:=hS.kin K;clear q1 qf q3;obtain⟨q1,qf,q3⟩:=hS.rp.at1;skip;rw[I4.out];clear K)|(go_at_call 92;with_reducible refine(xJ C _ _ _ hS.rp).mono ?_;rintro e w' ⟨rfl,hR,hG⟩;have G:=Gr.of_grew hG;skip;replace hS:=hS.fail hR hG;clear q1 qf q3;obtain⟨q1,qf,q3⟩:=hS.rp.at1;clear hR hG G))
  exact HQ.out _ _ _ _ _ (World.ownsRow_nil _ _ _ _) hS.rp hS.gr HF.out
theorem uw{x:List UInt8}{v:Int}:∀(l:List (List UInt8×Int)),l.lookup x=some v->∃a,(a,v)∈l
 |[],h=>by cases h
 |(a,c)::l,h=>by
  simp only[List.lookup] at h
  split at h
  ·cases h;exact⟨a,List.mem_cons_self ..⟩
  ·obtain⟨a',ha⟩:=uw l h
   exact⟨a',List.mem_cons_of_mem _ ha⟩
theorem zeY(k:Nat):∀p∈opsOf k,p.2≠0:=by
 rcases k with _|_|_|_|k<;>simp[opsOf]
theorem opAt_ne{k:Nat}{l:List Item}{i:Nat}{op:Int}(h:opAt k l i=some op):op≠0:=by
 unfold opAt at h
 split at h
 ·split at h
  ·obtain⟨a,ha⟩:=uw _ h
   exact zeY k _ ha
  ·cases h
 ·cases h
theorem opP_zero{C:Ctx}{k j:Nat}(h:opP C k j (-1)=0):opAt k C.l j=none:=by
 unfold opP at h
 rw[if_pos (by omega)] at h
 cases hx:opAt k C.l j with
 |none=>rfl
 |some x=>rw[hx] at h;exact absurd h (opAt_ne hx)
theorem zaU{C:Ctx}{k j:Nat}{b x:Int}(h:opP C k j b=x)(hx:x≠0):b<0/\opAt k C.l j=some x/\j<C.l.length:=by
 unfold opP at h
 split at h
 ·rename_i hb
  cases hy:opAt k C.l j with
  |none=>rw[hy] at h;exact absurd h.symm hx
  |some y=>rw[hy] at h;exact⟨hb,by rw[<-h];rfl,zcF hy⟩
 ·exact absurd h.symm hx
def RowI(C:Ctx)(k i:Nat)(b:Int)(l:List Nd)(j:Nat)(b':Int):Prop:=
 i<=j/\l.length<=j-i/\NtOk l/\Vb b'/\(0<=b->j=i/\b'=b)/\
 (b= -1->(b'= -1/\∃left,l=flatTs [left] 1/\∀f r,rd C f (.row k) i=some r->∃f',rd C f' (.rest k left) j=some r)\/(0<=b'/\∀f r,rd C f (.row k) i=some r->r= .no b'))
theorem zdq(C:Ctx)(nt:NT)(i:Nat):∃f r,rd C f nt i=some r:=zcE C _ nt i (Nat.lt_succ_self _)
theorem zdn{C:Ctx}{k i j:Nat}{b b':Int}{l:List Nd}(hk:k<5)(h:PN C (.row (k+1)) i b l j b'):RowI C k i b l j b':=by
 obtain⟨h1,h2,h3,h4,h5,h6⟩:=h
 refine⟨h1,h2,h3,h4,h5,fun hb=>?_⟩
 obtain⟨f1,r1,hr1⟩:=zdq C (.row (k+1)) i
 have hA:=h6 hb f1 r1 hr1
 cases r1 with
 |no p=>
  obtain⟨rfl,hp⟩:=hA
  refine .inr ⟨hp,fun f r hr=>?_⟩
  cases f with
  |zero=>cases hr
  |succ f=>
   simp only[rd] at hr
   rw[if_neg (by omega)] at hr
   cases hx:rd C f (.row (k+1)) i with
   |none=>rw[hx] at hr;cases hr
   |some r2=>
    obtain rfl:=jQ C hx hr1
    rw[hx] at hr
    exact(Option.some.inj hr).symm
 |ok ts j1=>
  obtain⟨rfl,hb',hl⟩:=hA
  obtain⟨t,rfl⟩:=kK C _ _ _ _ _ trivial hr1
  refine .inl ⟨hb',t,hl,fun f r hr=>?_⟩
  cases f with
  |zero=>cases hr
  |succ f=>
   simp only[rd] at hr
   rw[if_neg (by omega)] at hr
   cases hx:rd C f (.row (k+1)) i with
   |none=>rw[hx] at hr;cases hr
   |some r2=>
    obtain rfl:=jQ C hx hr1
    rw[hx] at hr
    exact⟨f,hr⟩
theorem zgJ{C:Ctx}{k i j:Nat}{b b':Int}{l:List Nd}(h:RowI C k i b l j b')(hop:opP C k j b'=0):PN C (.row k) i b l j b':=by
 obtain⟨h1,h2,h3,h4,h5,h6⟩:=h
 refine⟨h1,h2,h3,h4,h5,fun hb f r hr=>?_⟩
 rcases h6 hb with⟨rfl,left,hl,hf⟩|⟨hp,hf⟩
 ·obtain⟨f',hr'⟩:=hf f r hr
  cases f' with
  |zero=>cases hr'
  |succ f'=>
   simp only[rd] at hr'
   rw[opP_zero hop] at hr'
   obtain rfl:=Option.some.inj hr'
   exact⟨rfl,rfl,hl⟩
 ·rw[hf f r hr]
  exact⟨rfl,hp⟩
theorem qG(n:Nd)(x y:Value×List Nd):(nodeL n [x,y]).length=x.2.length+y.2.length+1:=by simp[nodeL,xk,xh]
theorem kn(n:Nd)(v v2:Value)(l l2:List Nd)(h:NtOk l)(h2:NtOk l2):NtOk (nodeL n [(v,l),(v2,l2)]):=j7 _ _ (fun x hx=>by
 simp only[List.mem_cons,List.not_mem_nil,or_false] at hx
 rcases hx with rfl|rfl
 ·exact h
 ·exact h2)
theorem nodeL2_flat{n:Nd}{v v2:Value}{ts us:List Tr}{k:Int}{name:ByteArray}{num op a:Int}(hn:n.kind=k/\n.name=name/\n.num=num/\n.op=op/\n.at_=a):nodeL n [(v,flatTs ts 1),(v2,flatTs us 1)]=flatTs [zJ k name num op a (ts++us)] 1:=
 km hn (by simp[xk,jq,zY])
theorem gU{C:Ctx}{k i j j2:Nat}{b b' b2 x:Int}{l l2:List Nd}(v v2:Value)(hk:k<5)(h:RowI C k i b l j b')(hop:opP C k j b'=x)(hx:x≠0)(hp:PN C (.row (k+1)) (j+1) b' l2 j2 b2):
 (k≠2->RowI C k i b (nodeL ⟨0,15,zL,0,x,placeOf C.l C.e j⟩ [(v,l),(v2,l2)]) j2 b2)/\(k=2->PN C (.row k) i b (nodeL ⟨0,15,zL,0,x,placeOf C.l C.e j⟩ [(v,l),(v2,l2)]) j2 b2):=by
 obtain⟨h1,h2,h3,h4,h5,h6⟩:=h
 obtain⟨p1,p2,p3,p4,p5,p6⟩:=hp
 obtain⟨hb',hat,hlt⟩:=zaU hop hx
 have hb'1:b'= -1:=by rcases h4 with h|h<;>omega
 have hb0:¬0<=b:=fun h=>by have:=h5 h;omega
 simp only[bzN] at p2
 have hlen:(nodeL ⟨0,15,zL,0,x,placeOf C.l C.e j⟩ [(v,l),(v2,l2)]).length<=j2-i:=by rw[qG];simp only;omega
 have hok:=kn ⟨0,15,zL,0,x,placeOf C.l C.e j⟩ v v2 l l2 h3 p3
 have hij:i<=j2:=by omega
 subst hb'1
 obtain⟨f1,r1,hr1⟩:=zdq C (.row (k+1)) (j+1)
 have hA:=p6 rfl f1 r1 hr1
 refine⟨fun hk2=>⟨hij,hlen,hok,p4,fun h=>absurd h hb0,fun hb=>?_⟩,fun hk2=>⟨hij,hlen,hok,p4,fun h=>absurd h hb0,fun hb f r hr=>?_⟩⟩
 ·rcases h6 hb with⟨_,left,hl,hf⟩|⟨hp0,_⟩
  ·cases r1 with
   |no p=>
    obtain⟨rfl,hp⟩:=hA
    refine .inr ⟨hp,fun f r hr=>?_⟩
    obtain⟨f',hr'⟩:=hf f r hr
    cases f' with
    |zero=>cases hr'
    |succ f'=>
     simp only[rd] at hr'
     rw[hat] at hr'
     simp only at hr'
     cases hy:rd C f' (.row (k+1)) (j+1) with
     |none=>rw[hy] at hr';cases hr'
     |some r2=>
      obtain rfl:=jQ C hy hr1
      rw[hy] at hr'
      exact(Option.some.inj hr').symm
   |ok ts j1=>
    obtain⟨rfl,hb2,hl2⟩:=hA
    obtain⟨t,rfl⟩:=kK C _ _ _ _ _ trivial hr1
    refine .inl ⟨hb2,zJ 15 zL 0 x (placeOf C.l C.e j) [left,t],?_,fun f r hr=>?_⟩
    ·subst hl hl2
     exact nodeL2_flat ⟨rfl,rfl,rfl,rfl,rfl⟩
    ·obtain⟨f',hr'⟩:=hf f r hr
     cases f' with
     |zero=>cases hr'
     |succ f'=>
      simp only[rd] at hr'
      rw[hat] at hr'
      simp only at hr'
      cases hy:rd C f' (.row (k+1)) (j+1) with
      |none=>rw[hy] at hr';cases hr'
      |some r2=>
       obtain rfl:=jQ C hy hr1
       rw[hy] at hr'
       simp only[andThen] at hr'
       rw[if_neg hk2] at hr'
       exact⟨f',hr'⟩
  ·omega
 ·rcases h6 hb with⟨_,left,hl,hf⟩|⟨hp0,_⟩
  ·obtain⟨f',hr'⟩:=hf f r hr
   cases f' with
   |zero=>cases hr'
   |succ f'=>
    simp only[rd] at hr'
    rw[hat] at hr'
    simp only at hr'
    cases hy:rd C f' (.row (k+1)) (j+1) with
    |none=>rw[hy] at hr';cases hr'
    |some r2=>
     obtain rfl:=jQ C hy hr1
     rw[hy] at hr'
     cases r2 with
     |no p=>
      obtain⟨rfl,hp⟩:=hA
      obtain rfl:=Option.some.inj hr'
      exact⟨rfl,hp⟩
     |ok ts j1=>
      obtain⟨rfl,hb2,hl2⟩:=hA
      obtain⟨t,rfl⟩:=kK C _ _ _ _ _ trivial hr1
      simp only[andThen] at hr'
      rw[if_pos hk2] at hr'
      obtain rfl:=Option.some.inj hr'
      refine⟨rfl,hb2,?_⟩
      subst hl hl2
      exact nodeL2_flat ⟨rfl,rfl,rfl,rfl,rfl⟩
  ·omega
theorem ziv{C:Ctx}{i j:Nat}{b b':Int}{l:List Nd}(h:PN C .unary i b l j b'):PN C (.row 5) i b l j b':=by
 obtain⟨h1,h2,h3,h4,h5,h6⟩:=h
 refine⟨h1,h2,h3,h4,h5,fun hb f r hr=>?_⟩
 cases f with
 |zero=>cases hr
 |succ f=>
  simp only[rd] at hr
  rw[if_pos (by omega)] at hr
  exact h6 hb f r hr
theorem PAll.expr1{C:Ctx}{N:Nat}(H:PAll C N)(k i:Nat)(b:Int)(w:World)(hk:k+1<=5)(h:RP C i b w)(hv:Vb b)(hm:remP C i b*20+(8-(k+1))<N):Calls Tryz.prog 93 #[.pointer (some ⟨C.r,0,none⟩), .int .i64 ((k:Int)+1)] w (yG C w (PN C (.row (k+1)) i b)):=by
 have:=H.expr (k+1) i b w hk h hv hm
 simpa using this
theorem ziD{C:Ctx}{wr:World}{k i j:Nat}{b b':Int}{v:Value}{l:List Nd}{B:Nat}(ho:wr.ownsRow B 50 6 v l.length (ndCells l))(hI:RowI C k i b l j b')(hR:RP C j b' wr):Lst B wr (v,l):=by
 refine⟨ho,hI.2.2.1,?_⟩
 have h1:=hI.2.1
 have h2:=hR.le
 have h3:=hR.len
 show l.length<=20000
 omega
theorem zdo{C:Ctx}{N:Nat}(IH:PAll C N)(hLX:uo C.l)(k i:Nat)(hk:k<=5)(b:Int)(w:World)(h:RP C i b w)(hv:Vb b)(hm:remP C i b*20+(8-k)<=N):Calls Tryz.prog 93 #[.pointer (some ⟨C.r,0,none⟩), .int .i64 k] w (yG C w (PN C (.row k) i b)):=by
 have hS:=PSt.start h hv
 have hrl:=h.lt
 have hlen:=h.len
 have HPL:Hid (∀k,0<=placeOf C.l C.e k):=Lib.hid (yA h)
 obtain⟨q1,qf,q3⟩:=h.at1
 generalize hQ:yG C w (PN C (.row k) i b)=Q
 have HQ:Hid (∀v l j b' w',w'.ownsRow w.heap.size 50 6 v l.length (ndCells l)->RP C j b' w'->Gr C.r w w'->PN C (.row k) i b l j b'->Q (.returned v) w'):=Lib.hid (fun v l j b' w' h1 h2 h3 h4=>by rw[<-hQ];exact⟨v,l,j,b',rfl,h1,h2,h3,h4⟩)
 clear hQ
 have HIH:=Lib.hid IH
 clear IH
 have HLX:=Lib.hid hLX
 clear hLX
 by_cases h5:k=5
 ·subst h5
  clear h
  go_enter Tryz.func93,Tryz.ntmps93
  go_wp2_with (go_at_call 131;with_reducible refine(HIH.out.unary _ _ _ hS.rp hS.vb (by have:=hS.rem;omega)).mono ?_;rintro e w' ⟨v1,l1,j1,b1,rfl,ho,hR,G,hP1⟩;obtain⟨bo1,m1,c1,rfl⟩:=zP ho;skip;have hl1:=lst_of ho hS.gr.size hP1 hR;replace hS:=hS.sub hR G hP1;clear q1 qf q3;obtain⟨q1,qf,q3⟩:=hS.rp.at1;clear ho hR G)
  exact HQ.out _ _ _ _ _ hl1.1 hS.rp hS.gr (ziv hP1)
 ·have hk5:k<5:=by omega
  have hd5:((k:Int)==5)=false:=by simp;omega
  clear h
  go_enter Tryz.func93,Tryz.ntmps93
  go_wp2_with (go_at_call 93;with_reducible refine(HIH.out.expr1 k _ _ _ (by omega) hS.rp hS.vb (by have:=hS.rem;omega)).mono ?_;rintro e w' ⟨v1,l1,j1,b1,rfl,ho,hR,G,hP1⟩;obtain⟨bo1,m1,c1,rfl⟩:=zP ho;skip;have hl1:=lst_of ho hS.gr.size hP1 hR;replace hS:=hS.sub hR G hP1;clear q1 qf q3;obtain⟨q1,qf,q3⟩:=hS.rp.at1;clear ho hR G)
  have HI1:=Lib.hid (zdn hk5 hP1)
  have HS1:=Lib.hid hS
  have HO1:=Lib.hid hl1.1
  clear hS hl1 hP1 q1 qf q3
  go_loopg [5] C.l.length (fun gg x wr=>∃(l:List Nd) (j:Nat) (b':Int),wr.ownsRow w.heap.size 50 6 x l.length (ndCells l)/\PSt C w (remP C i b) j b' wr/\RowI C k i b l j b'/\C.l.length-j<=gg)
  case atStart=>exact⟨_,_,_,HO1.out,HS1.out,HI1.out,Nat.sub_le _ _⟩
  case round=>
   obtain⟨l,j,b',hO,hS,hI,hgg⟩:=hrel
   clear HO1 HS1 HI1
   have HI:=Lib.hid hI
   have HG:=Lib.hid hgg
   have hl1:=ziD hO hI hS.rp
   obtain⟨bo,m,c,rfl⟩:=zP hO
   clear hO hI hgg
   obtain⟨q1,qf,q3⟩:=hS.rp.at1
   generalize hx:opP C k j b'=x
   have HX:=Lib.hid hx
   by_cases hx0:x=0
   ·have hxd:(x==0)=true:=by simp[hx0]
    clear hx
    go_wp2_with (go_at_call 132;with_reducible refine(vG C HLX.out k _ hk5 _ _ hS.rp).mono ?_;rintro e w' ⟨rfl,K⟩;replace hS:=hS.kin K;replace hl1:=hl1.kin K;clear q1 qf q3;obtain⟨q1,qf,q3⟩:=hS.rp.at1;rw[HX.out];clear K)
    exact HQ.out _ _ _ _ _ hl1.1 hS.rp hS.gr (zgJ HI.out (by rw[HX.out];exact hx0))
   ·have hxd:(x==0)=false:=by simp[hx0]
    obtain⟨hb1,_,hlt⟩:=zaU hx hx0
    have hb2:b= -1:=by
     rcases hv with h|h
     ·exact h
     ·have:=(HI.out.2.2.2.2.1 h).2;omega
    have hij:=HI.out.1
    have HLT:=Lib.hid hlt
    have HREM:Hid (C.l.length-(j+1)+1<=remP C i b):=Lib.hid (by rw[remP_good (by omega)];omega)
    have hm2:(C.l.length-(j+1)+1)*20+8<N:=by rw[remP_good (by omega)] at hm;omega
    clear hx hb2
    go_upto_region 9 with(first|(go_at_call 132;with_reducible refine(vG C HLX.out k _ hk5 _ _ hS.rp).mono ?_;rintro e w' ⟨rfl,K⟩;replace hS:=hS.kin K;replace hl1:=hl1.kin K;clear q1 qf q3;obtain⟨q1,qf,q3⟩:=hS.rp.at1;rw[HX.out];clear K)|(go_at_call 88;with_reducible refine(zr C _ _ _ hS.rp).mono ?_;rintro e w' ⟨rfl,K⟩;replace hS:=hS.kin K;clear q1 qf q3;obtain⟨q1,qf,q3⟩:=hS.rp.at1;replace hl1:=hl1.kin K;clear K))
    replace hl1:=hl1.gr ((Gr.refl C.r _).setCell 1 (.int .i64 (((j:Nat):Int)+1))) hrl
    have hS2:=hS.inc2 HLT.out
    generalize World.setCell _ ⟨C.r,1,none⟩ (.int .i64 (((j:Nat):Int)+1))=wI at hS2 hl1⊢
    clear hS q1 qf q3
    have hS:=hS2
    clear hS2
    obtain⟨q1,qf,q3⟩:=hS.rp.at1
    go_upto_region 11 with(first|(go_at_call 93;with_reducible refine(HIH.out.expr1 k _ _ _ (by omega) hS.rp hS.vb (by have:=hS.rem;omega)).mono ?_;rintro e w' ⟨v2,l2,j2,b2,rfl,ho,hR,G,hP2⟩;obtain⟨bo2,m2,c2,rfl⟩:=zP ho;replace hl1:=hl1.gr G hrl;have hl2:=lst_of ho hS.gr.size hP2 hR;replace hS:=hS.sub hR G hP2;clear q1 qf q3;obtain⟨q1,qf,q3⟩:=hS.rp.at1;clear ho hR G)|(go_at_call 91;with_reducible refine(zaz ⟨0,15,⟨#[]⟩,0,x,placeOf C.l C.e j⟩ w.heap.size _ hS.gr.size (_,l) (_,l2) hl1 hl2).mono ?_;rintro e w' ⟨v,rfl,ho2,K2⟩;replace hS:=hS.kin K2;clear K2))
    by_cases hk2:k=2
    ·have hkd:((k:Int)==2)=true:=by simp[hk2]
     have HK2:=Lib.hid hk2
     clear hk2
     go_wp2_with fail
     exact HQ.out _ _ _ _ _ ho2 hS.rp hS.gr ((gU _ _ hk5 HI.out HX.out hx0 hP2).2 HK2.out)
    ·have hkd:((k:Int)==2)=false:=by simp;omega
     go_wp2_with fail
     have HN:=Lib.hid ((gU (.slice bo m c) (.slice bo2 m2 c2) hk5 HI.out HX.out hx0 hP2).1 hk2)
     go_roundg (C.l.length-j2)
     case measure=>have:=hP2.1;have:=HLT.out;have:=HG.out;omega
     case rel=>exact⟨_,_,_,ho2,hS.less (Nat.le_trans hS.rem HREM.out),HN.out,Nat.le_refl _⟩
def WdOk(l:List Item):Prop:=∀t∈l,t.kind=0->t.text.toList≠[125]
theorem yX{l:List Item}{i:Nat}{s t:ByteArray}(h:comesB l i s=true)(hne:(s.toList==t.toList)=false):comesB l i t=false:=by
 unfold comesB at h⊢
 split at h
 ·rename_i x hx
  simp only[Bool.and_eq_true,beq_iff_eq] at h
  rw[<-h.2] at hne
  simp only[hne,Bool.and_false]
 ·cases h
theorem kw_named{l:List Item}{i:Nat}{s:ByteArray}(h:comesB l i s=true)(hs:ze s=true):namedB l i=false:=by
 unfold comesB at h
 unfold namedB
 split at h
 ·rename_i x hx
  simp only[Bool.and_eq_true,beq_iff_eq] at h
  have e:ze x.text=ze s:=by unfold ze;rw[h.2]
  simp only[e,hs,Bool.not_true,Bool.and_false]
 ·cases h
theorem stmt_close{C:Ctx}(hw:WdOk C.l){f i:Nat}(h:comesB C.l i ⟨#[125]⟩=true):rd C (f+1) .stmt i=some (.ok [] i):=by
 have hn:namedB C.l i=false:=by
  have h':=h
  unfold comesB at h'
  unfold namedB
  split at h'
  ·rename_i x hx
   simp only[Bool.and_eq_true,beq_iff_eq] at h'
   by_cases hk:x.kind=0
   ·exact absurd h'.2 (by have:=hw x (List.mem_of_getElem? hx) hk;rwa [ByteArray.toList_eq (bs:=(⟨#[125]⟩:ByteArray))])
   ·simp[hk]
  ·cases h'
 have c1:comesB C.l i ⟨#[105,110,112,117,116]⟩=false:=yX h (by kernel_rfl)
 have c2:comesB C.l i ⟨#[97,115,115,101,114,116]⟩=false:=yX h (by kernel_rfl)
 have c3:comesB C.l i ⟨#[115,107,105,112]⟩=false:=yX h (by kernel_rfl)
 have c4:comesB C.l i ⟨#[105,102]⟩=false:=yX h (by kernel_rfl)
 have c5:comesB C.l i ⟨#[119,104,105,108,101]⟩=false:=yX h (by kernel_rfl)
 simp only[rd,hn,c1,c2,c3,c4,c5]
 simp
theorem zgA{C:Ctx}{f i:Nat}(h:C.l.length<=i):rd C (f+1) .stmt i=some (.ok [] i):=by
 have hn:C.l[i]? =none:=List.getElem?_eq_none h
 have h1:namedB C.l i=false:=by unfold namedB;rw[hn]
 have h2:∀s,comesB C.l i s=false:=fun s=>by unfold comesB;rw[hn]
 simp only[rd,h1,h2]
 simp
theorem wg{C:Ctx}{f i:Nat}{r:Res (List Tr)}(h:∀f,rd C (f+1) .stmt i=some (.ok [] i))(hr:rd C f .stmts i=some r):r= .ok [] i:=by
 cases f with
 |zero=>cases hr
 |succ f=>
  simp only[rd] at hr
  cases f with
  |zero=>cases hr
  |succ f=>
   rw[h f] at hr
   exact(Option.some.inj hr).symm
def ue(ts:List Tr):Res (List Tr)->Res (List Tr)
 | .ok us k=> .ok (ts++us) k
 | .no p=> .no p
theorem zU{α:Type}{x:Option (Res α)}{F:α->Nat->Option (Res (List Tr))}{j k:Nat}(h:andThen x F=some (.ok [] k))(hF:∀a m,F a m=some (.ok [] k)->k=j):k=j:=by
 obtain⟨a,m,_,h2⟩:=zcw h
 exact hF a m h2
theorem qp{t:Tr}{m j k:Nat}(h:some (Res.ok [t] m)=some (Res.ok ([]:List Tr) k)):k=j:=by simp at h
theorem qN{c:Prop}[Decidable c]{x y:Option (Res (List Tr))}{j k:Nat}(h:(if c then x else y)=some (.ok [] k))(h1:x=some (.ok [] k)->k=j)(h2:y=some (.ok [] k)->k=j):k=j:=by
 split at h
 ·exact h1 h
 ·exact h2 h
theorem zgz{C:Ctx}{f j k:Nat}(h:rd C f .stmt j=some (.ok [] k)):k=j:=by
 cases f with
 |zero=>cases h
 |succ f=>
  unfold rd at h
  refine qN h (fun h=>?_) fun h=>?_
  ·refine qN h (fun h=>?_) fun h=>?_
   ·exact zU h fun _ _ h=>zU h fun _ _ h=>zU h fun _ _ h=>zU h fun _ _ h=>zU h fun _ _ h=>qp h
   ·exact zU h fun _ _ h=>zU h fun _ _ h=>zU h fun _ _ h=>qp h
  refine qN h (fun h=>zU h fun _ _ h=>zU h fun _ _ h=>qp h) fun h=>?_
  refine qN h (fun h=>zU h fun _ _ h=>zU h fun _ _ h=>qp h) fun h=>?_
  refine qN h (fun h=>zU h fun _ _ h=>qp h) fun h=>?_
  refine qN h (fun h=>zU h fun _ _ h=>zU h fun _ _ h=>qN h (fun h=>zU h fun _ _ h=>qp h) fun h=>qp h) fun h=>?_
  refine qN h (fun h=>zU h fun _ _ h=>zU h fun _ _ h=>qp h) fun h=>?_
  simp only[Option.some.injEq,Res.ok.injEq] at h
  exact h.2.symm
def StsI(C:Ctx)(Z:Nat->Prop)(i:Nat)(b:Int)(l:List Nd)(j:Nat)(b':Int):Prop:=
 i<=j/\l.length<=j-i+1/\NtOk l/\Vb b'/\(b'= -1->l.length<=j-i)/\(0<=b->j=i/\b'=b/\l=[])/\
 (b= -1->(b'= -1/\∃ts,l=flatTs ts 1/\∀f r,rd C f .stmts i=some r->∃f' r',rd C f' .stmts j=some r'/\r=ue ts r')\/(0<=b'/\∀f r,rd C f .stmts i=some r->r= .no b'\/∃ts j',r= .ok ts j'/\placeOf C.l C.e j'=b'/\Z j'))
theorem wf{C:Ctx}{Z:Nat->Prop}{i:Nat}{b:Int}(hv:Vb b):StsI C Z i b [] i b:=
 ⟨Nat.le_refl _,by simp, .nil,hv,fun _=>by simp,fun _=>⟨rfl,rfl,rfl⟩,fun hb=> .inl ⟨hb,[],rfl,fun f r hr=>⟨f,r,hr,by cases r<;>rfl⟩⟩⟩
theorem flat1_length(ts:List Tr):(flatTs ts 1).length=yl ts:=yJ 1 0 ts
theorem ze1{ts:List Tr}(h:ts≠[]):0<yl ts:=by
 cases ts with
 |nil=>exact absurd rfl h
 |cons t ts=>cases t with
  |mk n ks=>simp only[yl,flatTs,flatT,List.length_append,List.length_cons];omega
theorem gM{C:Ctx}{Z:Nat->Prop}{i j j2:Nat}{b b2:Int}{l l2:List Nd}(h:StsI C Z i b l j (-1))(hZ:Z j)(hp:PS C j l2 j2 b2):StsI C Z i b (l++l2) j2 b2/\(b2= -1->j<j2):=by
 obtain⟨h1,h2,h3,h4,h5,h6,h7⟩:=h
 obtain⟨p1,p2,p3,p4,_,p6⟩:=hp
 have h5:=h5 rfl
 have hb0:¬0<=b:=fun h=>by have:=h6 h;omega
 obtain⟨f1,r1,hr1⟩:=zdq C .stmt j
 have hA:=p6 f1 r1 hr1
 have hstep:∀f r,rd C f .stmts j=some r->∃f',f=f'+1/\andThen (some r1) (fun ts j=>if ts.isEmpty then some (.ok [] j) else andThen (rd C f' .stmts j) fun us j=>some (.ok (ts++us) j))=some r:=by
  intro f r hr
  cases f with
  |zero=>cases hr
  |succ f=>
   simp only[rd] at hr
   cases hx:rd C f .stmt j with
   |none=>rw[hx] at hr;cases hr
   |some r2=>
    obtain rfl:=jQ C hx hr1
    rw[hx] at hr
    exact⟨f,rfl,hr⟩
 have hmore:b2= -1->(∃ts,l2=flatTs ts 1/\ts≠[]/\r1= .ok ts j2/\j+yl ts<=j2):=by
  intro hb2
  cases r1 with
  |no p=>
   simp only[noStmt,Bool.false_eq_true,if_false] at hA
   obtain⟨e,hp⟩:=hA
   omega
  |ok ts k=>
   by_cases hts:ts=[]
   ·subst hts
    simp only[noStmt,List.isEmpty_nil,if_true] at hA
    omega
   ·have he:ts.isEmpty=false:=by cases ts with
     |nil=>exact absurd rfl hts
     |cons a b=>rfl
    simp only[noStmt,he,Bool.false_eq_true,if_false] at hA
    obtain⟨rfl,_,hl⟩:=hA
    have:=rd_nodes C f1 .stmt j ts j2 hr1
    simp only[jL] at this
    exact⟨ts,hl,hts,rfl,by omega⟩
 refine⟨⟨by omega,by rw[List.length_append];omega,h3.append p3,p4,fun hb2=>?_,fun h=>absurd h hb0,fun hb=>?_⟩,fun hb2=>?_⟩
 ·obtain⟨ts,hl,_,_,hn⟩:=hmore hb2
  rw[List.length_append,hl,flat1_length]
  omega
 ·rcases h7 hb with⟨_,ts,hl,hf⟩|⟨hp0,_⟩
  ·rcases p4 with hb2|hb2
   ·obtain⟨us,hl2,hne,hr2,hn⟩:=hmore hb2
    refine .inl ⟨hb2,ts++us,by rw[hl,hl2,zY],fun f r hr=>?_⟩
    obtain⟨f',r',hr',e⟩:=hf f r hr
    obtain⟨f'',_,hx⟩:=hstep f' r' hr'
    have he:us.isEmpty=false:=by cases us with
     |nil=>exact absurd rfl hne
     |cons a b=>rfl
    subst hr2
    simp only[andThen,he,Bool.false_eq_true,if_false] at hx
    cases hy:rd C f'' .stmts j2 with
    |none=>rw[hy] at hx;cases hx
    |some r3=>
     rw[hy] at hx
     refine⟨f'',r3,hy,?_⟩
     cases r3 with
     |no p=>obtain rfl:=Option.some.inj hx;exact e
     |ok vs k=>obtain rfl:=Option.some.inj hx;rw[e];simp[ue]
   ·refine .inr ⟨hb2,fun f r hr=>?_⟩
    obtain⟨f',r',hr',e⟩:=hf f r hr
    obtain⟨f'',_,hx⟩:=hstep f' r' hr'
    cases r1 with
    |no p=>
     simp only[noStmt,Bool.false_eq_true,if_false] at hA
     obtain⟨e2,hp⟩:=hA
     obtain rfl:=Option.some.inj hx
     exact .inl (by rw[e,e2];rfl)
    |ok us k=>
     by_cases hts:us=[]
     ·subst hts
      simp only[noStmt,List.isEmpty_nil,if_true] at hA
      simp only[andThen,List.isEmpty_nil,if_true] at hx
      obtain rfl:=Option.some.inj hx
      have hk:k=j:=zgz hr1
      subst hk
      exact .inr ⟨ts++[],k,e,hA.1.symm,hZ⟩
     ·have he:us.isEmpty=false:=by cases us with
       |nil=>exact absurd rfl hts
       |cons a b=>rfl
      simp only[noStmt,he,Bool.false_eq_true,if_false] at hA
      have:=hA.2.1
      omega
  ·omega
 ·obtain⟨ts,hl,hne,_,hn⟩:=hmore hb2
  have:=ze1 hne
  omega
theorem zaP{C:Ctx}{i j:Nat}{b b':Int}{l:List Nd}(v:Value)(hw:WdOk C.l)(hpl:∀k,0<=placeOf C.l C.e k)(hv:Vb b)(h:StsI C (fun j=>comesB C.l j ⟨#[125]⟩=false) (zk C i b ⟨#[123]⟩) (zn C i b ⟨#[123]⟩) l j b')(hex:0<=b'\/isP C j b' ⟨#[125]⟩=true):
 PN C .block i b (nodeL ⟨0,9,zL,0,0,placeOf C.l C.e i⟩ [(v,l)]) (zk C j b' ⟨#[125]⟩) (zn C j b' ⟨#[125]⟩):=by
 obtain⟨h1,h2,h3,h4,h5,h6,h7⟩:=h
 have g1:i<=zk C i b ⟨#[123]⟩:=z7
 have g2:j<=zk C j b' ⟨#[125]⟩:=z7
 have hok:=nodeL1_ok ⟨0,9,zL,0,0,placeOf C.l C.e i⟩ v l h3
 rcases hv with rfl|hb
 ·refine pn_of (by omega) ?_ hok (take_vb hpl h4) fun f=>?_
  ·rw[xm]
   show l.length+1<=_+1
   by_cases hc:isP C i (-1) ⟨#[123]⟩=true
   ·have e:zk C i (-1) ⟨#[123]⟩=i+1:=by unfold zk;rw[if_pos hc]
    omega
   ·have e:zn C i (-1) ⟨#[123]⟩=bad1 C i (-1):=by unfold zn;rw[if_neg hc]
    have:=h6 (by rw[e,xq];exact hpl i)
    rw[this.2.2]
    simp
  ·simp only[rd]
   refine zB (yI hpl) (fun hb=>?_) fun hb _ _=>?_
   ·obtain⟨e1,e2,_⟩:=h6 hb
    rw[e1,e2]
    exact(zt hb).2
   ·cases hr:rd C f .stmts (zk C i (-1) ⟨#[123]⟩) with
    |none=>trivial
    |some r=>
     rcases h7 hb with⟨rfl,ts,hl,hf⟩|⟨hb',hf⟩
     ·obtain⟨f',r',hr',e⟩:=hf f r hr
      have hcl:comesB C.l j ⟨#[125]⟩=true:=by
       rcases hex with h|h
       ·omega
       ·rwa [isP_good] at h
      obtain rfl:=wg (fun f=>stmt_close hw hcl) hr'
      subst e
      simp only[ue,andThen]
      refine zB (yI hpl) (fun _=>rfl) fun hb2 _ _=>?_
      rw[hb2,List.append_nil]
      subst hl
      exact xg (qB ⟨rfl,rfl,rfl,rfl,rfl⟩)
     ·rw[(zt hb').1,(zt hb').2]
      rcases hf f r hr with rfl|⟨ts,j',rfl,hpj,hz⟩
      ·exact⟨rfl,hb'⟩
      ·simp only[andThen,wantR,hz,Bool.false_eq_true,if_false]
       exact⟨hpj.symm,by rw[hpj];exact hb'⟩
 ·obtain⟨e1,e2⟩:=zt (C:=C) (i:=i) (s:=⟨#[123]⟩) hb
  rw[e1,e2] at h6
  obtain⟨rfl,rfl,rfl⟩:=h6 hb
  rw[(zt hb).1,(zt hb).2]
  exact zeT hb (by rw[xm];simp[bzN]) hok
end Go.Proofs.YtonmcakdofbjiaaGreatDoor
