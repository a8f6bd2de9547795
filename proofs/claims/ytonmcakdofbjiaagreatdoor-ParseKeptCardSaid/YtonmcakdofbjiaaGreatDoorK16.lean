/- A part. -/
import Derived.Test.YtonmcakdofbjiaaGreatDoorK15
import Derived.BigQuiet
import Derived.Test.YtonmcakdofbjiaaGreatDoorK14
import Derived.Laws.StructEq
import Derived.Deep.RegionHeld3
import Derived.KernelRfl
set_option linter.all false
set_option maxRecDepth 100000
set_option maxHeartbeats 8000000
namespace Go.Proofs.YtonmcakdofbjiaaGreatDoor
open Go.RowKit
theorem zbO:∀t∈signsL,t.size<=2/\1<=t.size:=by decide
theorem zds(s:ByteArray)(i:Nat)(w:World)(hi:i<s.size)(hs:s.size<=8796093022207)(hl:isLetter (s[i]).toNat=false)(hd:isDigit (s[i]).toNat=false):
 Calls Tryz.prog 87 #[.string s, .int .i64 i] w fun e w'=>e= .returned (pieceV (if (signAt s i).toList.isEmpty then ⟨0,⟨#[]⟩,0,0,20,i⟩ else ⟨2,signAt s i,0,i,0,0⟩))/\Kin w w':=by
 generalize hR:(if (signAt s i).toList.isEmpty then (⟨0,⟨#[]⟩,0,0,20,i⟩:Item) else ⟨2,signAt s i,0,i,0,0⟩)=R
 have HR:=Lib.hid hR
 clear hR
 go_enter Tryz.func87,Tryz.ntmps87
 go_upto_region 15 with(first|(go_at_call 124;with_reducible refine(rletter_any _ _).mono ?_;rintro e w' ⟨rfl,he⟩;obtain rfl:=he.symm)|(go_at_call 125;with_reducible refine(yQ _ _).mono ?_;rintro e w' ⟨rfl,he⟩;obtain rfl:=he.symm)|(go_at_call 128;with_reducible refine(zeI _).mono ?_;rintro e w' ⟨rfl,he⟩;obtain rfl:=he.symm))
 have hcell:∀(k:Nat) (t:ByteArray),signsL[k]? =some t->((w.alloc (.cells #[.int .i64 0, .string ⟨#[]⟩, .int .i64 0, .int .i64 0] 140)).alloc (.cells (signsL.map Value.string).toArray 9)).cell? ⟨w.heap.size+1,k,none⟩=some (.string t):=fun k t h=>by
  rw[World.cell?_alloc_at _ _ _ _ (by simp)]
  simp[h]
 have hz:∀(k:Nat),k<4->∃v,((w.alloc (.cells #[.int .i64 0, .string ⟨#[]⟩, .int .i64 0, .int .i64 0] 140)).alloc (.cells (signsL.map Value.string).toArray 9)).cell? ⟨w.heap.size,k,none⟩=some v:=fun k h=>by
  rw[World.cell?_alloc_past _ _ _ (by simp),World.cell?_alloc_at _ _ _ _ rfl]
  exact⟨_,Array.getElem?_eq_getElem (by simpa using h)⟩
 have hf:∀k,((w.alloc (.cells #[.int .i64 0, .string ⟨#[]⟩, .int .i64 0, .int .i64 0] 140)).alloc (.cells (signsL.map Value.string).toArray 9)).frozen? ⟨w.heap.size,k,none⟩=false:=fun k=>by simp[go_sem]
 have hK:Kin w ((w.alloc (.cells #[.int .i64 0, .string ⟨#[]⟩, .int .i64 0, .int .i64 0] 140)).alloc (.cells (signsL.map Value.string).toArray 9)):=((Kin.refl w).alloc _).alloc _
 have hlt2:w.heap.size+1<((w.alloc (.cells #[.int .i64 0, .string ⟨#[]⟩, .int .i64 0, .int .i64 0] 140)).alloc (.cells (signsL.map Value.string).toArray 9)).heap.size:=by simp
 have hB:w.heap.size<=w.heap.size:=Nat.le_refl _
 generalize ((w.alloc (.cells #[.int .i64 0, .string ⟨#[]⟩, .int .i64 0, .int .i64 0] 140)).alloc (.cells (signsL.map Value.string).toArray 9))=W at*
 obtain⟨B,hBB⟩:∃B,B=w.heap.size:=⟨_,rfl⟩
 rw[<-hBB] at hcell hz hf hlt2 hB
 rw[<-hBB]
 have HC:=Lib.hid hcell
 have HZ:=Lib.hid hz
 have HF:=Lib.hid hf
 have HK:=Lib.hid hK
 have HB:=Lib.hid hBB
 clear hcell hz hf hK hBB hB
 go_wp2_with fail
 go_loopg [8,9] 22 (fun g x y wq=>∃k:Nat,x= .int .i64 k/\k<=22/\g=22-k/\Kin W wq/\∀(j:Nat) (u:ByteArray),j<k->signsL[j]? =some u->yh s i u=false)
 case atStart=>exact⟨0,rfl,Nat.zero_le _,rfl,Kin.refl _,fun j u hj=>by omega⟩
 case round=>
  obtain⟨k,rfl,hk,hg,hkin,hno⟩:=hrel
  have HG:=Lib.hid hg
  have HKW:=Lib.hid hkin
  have HN:=Lib.hid hno
  clear hg hkin hno
  by_cases hlt:k<22
  ·obtain⟨t,ht⟩:∃t,signsL[k]? =some t:=⟨_,List.getElem?_eq_getElem (show k<signsL.length from hlt)⟩
   obtain⟨htm,htm1⟩:=zbO t (List.mem_of_getElem? ht)
   have HT:=Lib.hid ht
   have hct:wr.cell? ⟨B+1,k,none⟩=some (.string t):=(HKW.out.cell hlt2).trans (HC.out k t ht)
   clear ht
   cases hm:yh s i t with
   |false=>
    have HM:=Lib.hid hm
    by_cases hle:i+t.size<=s.size
    ·have hne:((s.extract i (i+t.size)).toList==t.toList)=false:=by
      unfold yh at hm
      rw[decide_eq_true hle,Bool.true_and] at hm
      exact hm
     have hdd:decide ((i:Int)+t.size<=s.size)=true:=decide_eq_true (by omega)
     clear hm
     go_wp2_with fail
     go_quiet (fail)
     go_wp2_with fail
     go_roundg (22-(k+1))
     case measure=>have:=HG.out;omega
     case rel=>
      refine⟨k+1,by simp,by omega,rfl,HKW.out.drewN _,fun j u hj hu=>?_⟩
      by_cases e:j=k
      ·subst e
       rw[HT.out] at hu
       cases hu
       exact HM.out
      ·exact HN.out j u (by omega) hu
    ·have hdd:decide ((i:Int)+t.size<=s.size)=false:=decide_eq_false (by omega)
     clear hm
     go_wp2_with fail
     go_quiet (fail)
     go_wp2_with fail
     go_roundg (22-(k+1))
     case measure=>have:=HG.out;omega
     case rel=>
      refine⟨k+1,by simp,by omega,rfl,HKW.out.drewN _,fun j u hj hu=>?_⟩
      by_cases e:j=k
      ·subst e
       rw[HT.out] at hu
       cases hu
       exact HM.out
      ·exact HN.out j u (by omega) hu
   |true=>
    have HM:=Lib.hid hm
    have hle:=(za2 hm).1
    have heq:((s.extract i (i+t.size)).toList==t.toList)=true:=by
     unfold yh at hm
     rw[decide_eq_true hle,Bool.true_and] at hm
     exact hm
    have hdd:decide ((i:Int)+t.size<=s.size)=true:=decide_eq_true (by omega)
    have hsg:=zdk hi HT.out hm HN.out
    have hRR:R=⟨2,t,0,i,0,0⟩:=by
     rw[<-HR.out,hsg,if_neg]
     rw[ByteArray.toList_eq]
     intro h
     have h2:t.data.toList.length=t.size:=Array.length_toList
     rw[List.isEmpty_iff.1 h] at h2
     have:(0:Nat)=t.size:=h2
     omega
    have HRR:=Lib.hid hRR
    obtain⟨v0,q0⟩:=HZ.out 0 (by omega)
    obtain⟨v1,q1⟩:=HZ.out 1 (by omega)
    obtain⟨v2,q2⟩:=HZ.out 2 (by omega)
    obtain⟨v3,q3⟩:=HZ.out 3 (by omega)
    have c0:=(HKW.out.cell (World.block_lt_of_cell? W _ q0)).trans q0
    have c1:=(HKW.out.cell (World.block_lt_of_cell? W _ q1)).trans q1
    have c2:=(HKW.out.cell (World.block_lt_of_cell? W _ q2)).trans q2
    have c3:=(HKW.out.cell (World.block_lt_of_cell? W _ q3)).trans q3
    have hfr:=fun j=>(World.frozen?_of_block (a:=⟨B,j,none⟩) (HKW.out.block B (by omega))).trans (HF.out j)
    have f0:=hfr 0
    have f1:=hfr 1
    have f2:=hfr 2
    have f3:=hfr 3
    clear hm hsg hRR q0 q1 q2 q3 hfr
    go_wp2_with fail
    go_quiet (fail)
    go_wp2_with fail
    refine bodyPost_ret (v:=pieceV ⟨2,t,0,i,0,0⟩) (by simp[results,Tryz.f87,pieceV,go_sem,c0,c1,c2,c3];try rfl) rfl ?_
    have hBl:w.heap.size<=B:=by rw[HB.out];exact Nat.le_refl _
    exact⟨congrArg (fun x=>Ending.returned (pieceV x)) HRR.out.symm,((((((HK.out.trans HKW.out).drewN _).setCell hBl _).setCell hBl _).setCell hBl _).setCell hBl _)⟩
  ·obtain rfl:k=22:=by omega
   have hsg:=sign_none hi (fun j u hu=>HN.out j u (List.getElem?_eq_some_iff.1 hu).1 hu)
   have hRR:R=⟨0,⟨#[]⟩,0,0,20,i⟩:=by
    rw[<-HR.out,hsg,if_pos (by rw[ByteArray.toList_eq];rfl)]
   have HRR:=Lib.hid hRR
   obtain⟨v0,q0⟩:=HZ.out 0 (by omega)
   obtain⟨v1,q1⟩:=HZ.out 1 (by omega)
   obtain⟨v2,q2⟩:=HZ.out 2 (by omega)
   obtain⟨v3,q3⟩:=HZ.out 3 (by omega)
   have c0:=(HKW.out.cell (World.block_lt_of_cell? W _ q0)).trans q0
   have c1:=(HKW.out.cell (World.block_lt_of_cell? W _ q1)).trans q1
   have c2:=(HKW.out.cell (World.block_lt_of_cell? W _ q2)).trans q2
   have c3:=(HKW.out.cell (World.block_lt_of_cell? W _ q3)).trans q3
   have hfr:=fun j=>(World.frozen?_of_block (a:=⟨B,j,none⟩) (HKW.out.block B (by omega))).trans (HF.out j)
   have f0:=hfr 0
   have f1:=hfr 1
   have f2:=hfr 2
   have f3:=hfr 3
   clear hsg hRR q0 q1 q2 q3 hfr
   go_wp2_with fail
   refine bodyPost_ret (v:=pieceV ⟨0,⟨#[]⟩,0,0,20,i⟩) (by simp[results,Tryz.f87,pieceV,go_sem,c0,c1,c2,c3];try rfl) rfl ?_
   have hBl:w.heap.size<=B:=by rw[HB.out];exact Nat.le_refl _
   exact⟨congrArg (fun x=>Ending.returned (pieceV x)) HRR.out.symm,(((((HK.out.trans HKW.out).setCell hBl _).setCell hBl _).setCell hBl _).setCell hBl _)⟩
theorem zeU(s:ByteArray)(i:Nat)(w:World)(hi:i<s.size)(hs:s.size<=8796093022207):
 Calls Tryz.prog 87 #[.string s, .int .i64 i] w fun e w'=>e= .returned (pieceV (itemAt s i))/\Kin w w':=by
 unfold itemAt letterAt yt
 rw[dif_pos hi,dif_pos hi]
 cases hl:isLetter (s[i]).toNat with
 |true=>rw[if_pos rfl];exact zaQ s i w hi hs hl
 |false=>
  rw[if_neg (by simp)]
  cases hd:isDigit (s[i]).toNat with
  |true=>rw[if_pos rfl];exact zbX s i w hi hs hl hd
  |false=>rw[if_neg (by simp)];exact zds s i w hi hs hl hd
theorem za4{s:ByteArray}{i k:Nat}(hi:i<s.size)(h35:(s[i]).toNat=35)(h:Upto isLine s i k):i<k:=by
 rcases Nat.lt_or_ge i k with h'|h'
 ·exact h'
 ·exfalso
  have e:i=k:=Nat.le_antisymm h.1 h'
  subst e
  have:=h.2.2.2 hi
  simp[isLine,h35] at this
theorem zdj(s:ByteArray):∀f f' i,s.size-i<=f->s.size-i<=f'->skipF s f i=skipF s f' i:=by
 intro f
 induction f with
 |zero=>
  intro f' i h _
  cases f' with
  |zero=>rfl
  |succ f'=>unfold skipF;rw[dif_neg (by omega)]
 |succ f ih=>
  intro f' i h h'
  cases f' with
  |zero=>unfold skipF;rw[dif_neg (by omega)]
  |succ f'=>
   unfold skipF
   by_cases hi:i<s.size
   ·rw[dif_pos hi,dif_pos hi]
    split
    ·exact ih f' (i+1) (by omega) (by omega)
    ·split
     ·rename_i h35
      have:=za4 hi h35 (upto_spec isLine s i (by omega))
      exact ih f' _ (by omega) (by omega)
     ·rfl
   ·rw[dif_neg hi,dif_neg hi]
theorem skipTo_step{s:ByteArray}{i k:Nat}(h:zfY s i k):(i<k/\k<=s.size/\skipTo s i=skipTo s k)\/(k=i/\skipTo s i=i):=by
 obtain⟨hi,h⟩:=h
 have e:∃f,s.size-i=f+1/\s.size-(i+1)=f:=⟨s.size-(i+1),by omega,rfl⟩
 obtain⟨f,e1,e2⟩:=e
 have hu:skipTo s i=if zT (s[i]).toNat then skipF s f (i+1) else if (s[i]).toNat=35 then skipF s f (upto isLine s i) else i:=by
  unfold skipTo
  rw[e1]
  conv=>lhs;unfold skipF
  rw[dif_pos hi]
 rcases h with⟨hb,rfl⟩|⟨hb,h35,hk⟩|⟨hb,h35,rfl⟩
 ·refine .inl ⟨by omega,by omega,?_⟩
  rw[hu,if_pos hb]
  unfold skipTo
  rw[e2]
 ·have hp:=za4 hi h35 hk
  refine .inl ⟨hp,hk.2.1,?_⟩
  rw[hu,if_neg (by simp[hb]),if_pos h35,<-upto_of hk]
  exact zdj s _ _ k (by omega) (Nat.le_refl _)
 ·refine .inr ⟨rfl,?_⟩
  rw[hu,if_neg (by simp[hb]),if_neg h35]
theorem zfv(s:ByteArray):∀f f' i,s.size-i<f->s.size-i<f'->cutF s f i=cutF s f' i:=by
 intro f
 induction f with
 |zero=>intro f' i h;omega
 |succ f ih=>
  intro f' i h h'
  cases f' with
  |zero=>omega
  |succ f'=>
   unfold cutF
   by_cases hi:i<s.size
   ·rw[if_pos hi,if_pos hi]
    by_cases hc:(itemAt s i).code=0
    ·rw[if_pos hc,if_pos hc]
     have hp:=item_pos hi hc
     have:=skipTo_ge s (i+(itemAt s i).text.size)
     rw[ih f' _ (by omega) (by omega)]
    ·rw[if_neg hc,if_neg hc]
   ·rw[if_neg hi,if_neg hi]
def xG(s:ByteArray)(i:Nat):List Item:=cutF s (s.size+1) (skipTo s i)
theorem zbi{s:ByteArray}{i k:Nat}(h:skipTo s i=skipTo s k):xG s i=xG s k:=by unfold xG;rw[h]
theorem zcb{s:ByteArray}{i:Nat}(h:s.size<=i):xG s i=[]:=by
 unfold xG cutF
 have:=skipTo_ge s i
 rw[if_neg (by omega)]
theorem zcc{s:ByteArray}{i:Nat}(hi:i<s.size)(hk:skipTo s i=i)(hc:(itemAt s i).code≠0):xG s i=[itemAt s i]:=by
 unfold xG cutF
 rw[hk,if_pos hi,if_neg hc]
theorem zbj{s:ByteArray}{i:Nat}(hi:i<s.size)(hk:skipTo s i=i)(hc:(itemAt s i).code=0):xG s i=itemAt s i::xG s (i+(itemAt s i).text.size):=by
 unfold xG
 conv=>lhs;unfold cutF
 rw[hk,if_pos hi,if_pos hc]
 have hp:=item_pos hi hc
 have:=skipTo_ge s (i+(itemAt s i).text.size)
 rw[zfv s s.size (s.size+1) _ (by omega) (by omega)]
theorem zdR{s:ByteArray}{i:Nat}(hc:(itemAt s i).code≠0):(itemAt s i).place=i:=by
 unfold itemAt at hc⊢
 split at hc
 ·rename_i h
  rw[if_pos h]
  unfold wordAt at hc⊢
  split at hc
  ·rename_i h;rw[if_pos h]
  ·exact absurd rfl hc
 ·rename_i h
  rw[if_neg h]
  split at hc
  ·rename_i h
   rw[if_pos h]
   unfold numAt at hc⊢
   split at hc
   ·rename_i h;rw[if_pos h]
   ·exact absurd rfl hc
  ·rename_i h
   rw[if_neg h]
   split at hc
   ·rename_i h;rw[if_pos h]
   ·exact absurd rfl hc
theorem good_all{l:List Item}(h:∀x∈l,x.code=0):zd l=l/\badOf l=(0,0):=by
 constructor
 ·exact List.filter_eq_self.2 fun x hx=>by simp[h x hx]
 ·unfold badOf
  have:∀(l:List Item) (a:Int×Int),(∀x∈l,x.code=0)->l.foldl (fun acc x=>if x.code=0 then acc else (x.code,x.place)) a=a:=by
   intro l
   induction l with
   |nil=>intro a _;rfl
   |cons x l ih=>
    intro a h
    rw[List.foldl_cons,if_pos (h x (List.mem_cons_self ..))]
    exact ih a fun y hy=>h y (List.mem_cons_of_mem _ hy)
  exact this l _ h
theorem Kin.grownK{w W W':World}{row:Option Nat}(h:Kin w W)(g:W.grownBy W' row)(hr:∀k,row=some k->w.heap.size<=k):Kin w W':=
 ⟨g.os.trans h.os,g.output.trans h.out,Nat.le_trans h.size g.size,fun k hk=>(g.block k (Nat.lt_of_lt_of_le hk h.size) (fun e=>by have:=hr k e.symm;omega)).trans (h.block k hk)⟩
theorem owns_kin{w w':World}{B n:Nat}{e:TypeId}{size:Nat}{v:Value}{xs:List Value}(h:w.ownsRow B e size v n xs)(K:Kin w w'):w'.ownsRow B e size v n xs:=by
 refine⟨h.1,h.2.imp id ?_⟩
 rintro⟨g,cap,cur,h1,h2,h3,h4⟩
 exact⟨g,cap,cur,h1,h2,(K.block g (Array.getElem?_eq_some_iff.1 h3).1).trans h3,h4⟩
def RToks(s:ByteArray)(w:World)(e:Ending)(w':World):Prop:=
 Kin w w'/\if 8192<s.size then e= .returned (.tuple #[.slice none 0 0, .int .i64 21, .int .i64 8192])
  else if (badOf (pieces s)).1≠0 then e= .returned (.tuple #[.slice none 0 0, .int .i64 (badOf (pieces s)).1, .int .i64 (badOf (pieces s)).2])
  else ∃sl,e= .returned (.tuple #[sl, .int .i64 0, .int .i64 0])/\w'.ownsRow w.heap.size 140 4 sl (zd (pieces s)).length (flatToks (zd (pieces s)))
theorem zbS(s:ByteArray)(hs:s.size<=9223372036854775807)(w:World):Calls Tryz.prog 45 #[.string s] w (RToks s w):=by
 unfold RToks
 by_cases hlong:8192<s.size
 ·have hd:decide ((8192:Int)<s.size)=true:=decide_eq_true (by omega)
  go_enter Tryz.func45,Tryz.ntmps45
  go_wp2_with fail
  refine bodyPost_ret (v:= .tuple #[.slice none 0 0, .int .i64 21, .int .i64 8192]) (by simp[results,Tryz.f45,go_sem];try rfl) rfl ?_
  exact⟨Kin.refl _,rfl⟩
 ·have hsz:s.size<=8192:=by omega
  generalize hQ:(fun(e:Ending) (w':World)=>Kin w w'/\if 8192<s.size then e= .returned (.tuple #[.slice none 0 0, .int .i64 21, .int .i64 8192])
   else if (badOf (pieces s)).1≠0 then e= .returned (.tuple #[.slice none 0 0, .int .i64 (badOf (pieces s)).1, .int .i64 (badOf (pieces s)).2])
   else ∃sl,e= .returned (.tuple #[sl, .int .i64 0, .int .i64 0])/\w'.ownsRow w.heap.size 140 4 sl (zd (pieces s)).length (flatToks (zd (pieces s))))=Q
  have HQ1:Hid (∀x w',(badOf (pieces s)).1=x->x≠0->Kin w w'->Q (.returned (.tuple #[.slice none 0 0, .int .i64 x, .int .i64 (badOf (pieces s)).2])) w'):=Lib.hid (fun x w' h1 h2 K=>by
   rw[<-hQ]
   refine⟨K,?_⟩
   rw[if_neg hlong,if_pos (by rw[h1];exact h2),h1])
  have HQ2:Hid (∀sl w',(badOf (pieces s)).1=0->Kin w w'->w'.ownsRow w.heap.size 140 4 sl (zd (pieces s)).length (flatToks (zd (pieces s)))->Q (.returned (.tuple #[sl, .int .i64 0, .int .i64 0])) w'):=Lib.hid (fun sl w' h1 K hown=>by
   rw[<-hQ]
   refine⟨K,?_⟩
   rw[if_neg hlong,if_neg (by rw[h1];simp)]
   exact⟨sl,rfl,hown⟩)
  clear hQ
  obtain⟨ti,hi,hz0,hz1,hz2⟩:=info_parts zcM
  go_enter Tryz.func45,Tryz.ntmps45
  go_wp2_with fail
  go_loopg [5,6] s.size (fun g x y wq=>∃(i:Nat) (ts:List Item),y= .int .i64 i/\i<=s.size/\g=s.size-i/\Kin w wq/\wq.ownsRow w.heap.size 140 4 x ts.length (flatToks ts)/\pieces s=ts++xG s i/\(∀t∈ts,t.code=0)/\ts.length<=i)
  case atStart=>exact⟨0,[],rfl,Nat.zero_le _,rfl,Kin.refl _,World.ownsRow_nil _ _ _ _,rfl,(fun t ht=>by cases ht),Nat.zero_le _⟩
  case round=>
   obtain⟨i,ts,rfl,hile,hg,hkin,hown,hp,hall,hcnt⟩:=hrel
   have HG:=Lib.hid hg
   have HK:=Lib.hid hkin
   have HO:=Lib.hid hown
   have HP:=Lib.hid hp
   have HA:=Lib.hid hall
   clear hg hkin hown hp hall
   by_cases hlt:i<s.size
   ·have HBH:=Lib.hid (zd3 s i · hlt (by omega))
    go_upto_region 7 with(go_at_call 86;with_reducible refine(HBH.out _).mono ?_;rintro e w' ⟨⟨k,hbk,rfl⟩,he⟩;obtain rfl:=he.symm)
    rcases skipTo_step hbk with⟨h1,h2,h3⟩|⟨rfl,h3⟩
    ·clear hbk
     have H3:=Lib.hid h3
     clear h3
     have hd:decide ((i:Int)<k)=true:=decide_eq_true (by omega)
     go_wp2_with fail
     go_roundg (s.size-k)
     case measure=>have:=HG.out;omega
     case rel=>exact⟨k,ts,rfl,h2,rfl,HK.out,HO.out,by rw[HP.out,zbi H3.out],HA.out,by omega⟩
    ·clear hbk
     have H3:=Lib.hid h3
     clear h3
     have hd:decide ((k:Int)<k)=false:=decide_eq_false (by omega)
     have HPC:=Lib.hid (zeU s k · hlt (by omega))
     have hfl:=kp ts
     have HFL:=Lib.hid hfl
     clear hfl
     have htc:∀x:Item,∀u∈tokCells x,u.oneCell'=true:=by
      intro x u hu
      simp[tokCells] at hu
      rcases hu with rfl|rfl|rfl|rfl<;>rfl
     have HTC:=Lib.hid htc
     clear htc
     by_cases hc:(itemAt s k).code=0
     ·have hpos:=item_pos hlt hc
      have HSP:=Lib.hid (zbj hlt H3.out hc)
      have hcd:((itemAt s k).code !=0)=false:=by simp[hc]
      generalize hx:itemAt s k=x at*
      have HCX:=Lib.hid hc
      clear hc
      unfold pieceV at HPC
      go_wp2_with (first|(go_at_call 87;with_reducible refine(HPC.out _).mono ?_;rintro e w1 ⟨rfl,K1⟩;have hz:=K1.size;have hO1:=owns_kin HO.out K1)|(at_builtin;refine wpList_append_own _ rfl (.tmp 34) (.tmp 36) 80 rfl w.heap.size 140 ti _ 4 40 Tryz.underlying80 hi hz0 hz1 hz2 rfl (by decide) _ _ _ rfl ((hO1.alloc _).alloc _) ⟨w1.heap.size+1,0,none⟩ 1 1 (tokCells x) rfl rfl ?c1 (HTC.out x) ?c3 ?c4 ?c5 ?_))
      case c1=>
       intro j u hj
       match j,hj with
       |0,hj=>simp[tokCells] at hj;subst hj;simp[go_sem,Addr.add]
       |1,hj=>simp[tokCells] at hj;subst hj;simp[go_sem,Addr.add]
       |2,hj=>simp[tokCells] at hj;subst hj;simp[go_sem,Addr.add]
       |3,hj=>simp[tokCells] at hj;subst hj;simp[go_sem,Addr.add]
       |j+4,hj=>simp[tokCells] at hj
      case c3=>unfold maxLen;omega
      case c4=>omega
      case c5=>have:=HK.out.size;simp;omega
      intro v' w2 hown' hgrow _
      have hrow:∀b,u5.ownBlock=some b->w.heap.size<=b/\b<wr.heap.size:=fun b hb=>HO.out.lt b hb
      have ct:w2.cell? ⟨w1.heap.size,1,none⟩=some (.string x.text):=(World.cell?_of_block (a:=⟨w1.heap.size,1,none⟩) (hgrow.block w1.heap.size (by simp;omega) (fun h=>by have:=hrow _ h.symm;omega))).trans (by simp[go_sem])
      have KF:Kin w w2:=((((HK.out.trans K1).alloc _).alloc _)).grownK hgrow (fun b hb=>(hrow b hb).1)
      have HKF:=Lib.hid KF
      have HOW:=Lib.hid hown'
      clear hgrow hown' hrow hO1 KF K1
      go_wp2_with fail
      go_roundg (s.size-(k+x.text.size))
      case measure=>have:=HG.out;omega
      case rel=>
       refine⟨k+x.text.size,ts++[x],by simp,hpos.2,rfl,HKF.out,?_,?_,?_,?_⟩
       ·rw[List.length_append,zah]
        exact HOW.out
       ·rw[HP.out,HSP.out,List.append_assoc]
        rfl
       ·intro t ht
        rcases List.mem_append.1 ht with h|h
        ·exact HA.out t h
        ·rw[List.mem_singleton.1 h];exact HCX.out
       ·rw[List.length_append]
        show ts.length+1<=_
        omega
     ·have hcd:((itemAt s k).code !=0)=true:=by simp[hc]
      have hb:badOf (pieces s)=((itemAt s k).code,(k:Int)):=by
       rw[HP.out,zcc hlt H3.out hc,zbp hc,zdR hc]
      have HQ3:Hid (∀w',Kin w w'->Q (.returned (.tuple #[.slice none 0 0, .int .i64 (itemAt s k).code, .int .i64 k])) w'):=Lib.hid (fun w' K=>by
       have:=HQ1.out _ w' (by rw[hb]) hc K
       rw[hb] at this
       exact this)
      unfold pieceV at HPC
      generalize itemAt s k=x at*
      clear hb hc
      go_wp2_with (go_at_call 87;with_reducible refine(HPC.out _).mono ?_;rintro e w1 ⟨rfl,K1⟩)
      refine bodyPost_ret (v:= .tuple #[.slice none 0 0, .int .i64 x.code, .int .i64 k]) (by simp[results,Tryz.f45,go_sem];try rfl) rfl ?_
      exact HQ3.out _ (by first|exact(HK.out.trans K1).alloc _)
   ·obtain rfl:i=s.size:=by omega
    have hpp:pieces s=ts:=by rw[HP.out,zcb (Nat.le_refl _),List.append_nil]
    obtain⟨g1,g2⟩:=good_all HA.out
    have hfin:Q (.returned (.tuple #[u5, .int .i64 0, .int .i64 0])) wr:=HQ2.out _ wr (by rw[hpp,g2]) HK.out (by rw[hpp,g1];exact HO.out)
    have HFIN:=Lib.hid hfin
    clear hfin hpp g1 g2
    go_wp2_with fail
    refine bodyPost_ret (v:= .tuple #[u5, .int .i64 0, .int .i64 0]) (by simp[results,Tryz.f45,go_sem];try rfl) rfl ?_
    exact HFIN.out
inductive Tr where
 |mk (n:Nd) (ks:List Tr)
inductive NT where
 |row (k:Nat)
 |rest (k:Nat) (left:Tr)
 |unary
 |atom
 |stmt
 |stmts
 |block
 |prog
def opsOf:Nat->List (List UInt8×Int)
 |0=>[([124,124],15)]
 |1=>[([38,38],14)]
 |2=>[([60],8),([60,61],9),([62],10),([62,61],11),([61,61],12),([33,61],13)]
 |3=>[([43],3),([45],4)]
 |_=>[([42],5),([47],6),([37],7)]
def opAt(k:Nat)(l:List Item)(i:Nat):Option Int:=match l[i]? with
 |some t=>if t.kind=2 then (opsOf k).lookup t.text.toList else none
 |none=>none
def andThen{α β:Type}:Option (Res α)->(α->Nat->Option (Res β))->Option (Res β)
 |none,_=>none
 |some (.no p),_=>some (.no p)
 |some (.ok a j),f=>f a j
def wantR(C:Ctx)(s:ByteArray)(i:Nat):Option (Res Unit):=some (if comesB C.l i s then .ok () (i+1) else .no (placeOf C.l C.e i))
def yx(C:Ctx)(i:Nat):Option (Res ByteArray):=some (if namedB C.l i then .ok (textAt C.l i) (i+1) else .no (placeOf C.l C.e i))
def z6(C:Ctx)(i:Nat):Option (Res Int):=some (if numbB C.l i then .ok (numAtT C.l i) (i+1) else .no (placeOf C.l C.e i))
def zJ(kind:Int)(name:ByteArray)(num op at_:Int)(ks:List Tr):Tr:= .mk ⟨0,kind,name,num,op,at_⟩ ks
def zL:ByteArray:=⟨#[]⟩
def rd(C:Ctx):Nat->NT->Nat->Option (Res (List Tr))
 |0,_,_=>none
 |f+1, .row k,i=>
  if 5<=k then rd C f .unary i
  else andThen (rd C f (.row (k+1)) i) fun ts j=>match ts with
   |[t]=>rd C f (.rest k t) j
   |_=>none
 |f+1, .rest k left,i=>
  match opAt k C.l i with
  |none=>some (.ok [left] i)
  |some op=>andThen (rd C f (.row (k+1)) (i+1)) fun ts j=>match ts with
   |[t]=>if k=2 then some (.ok [zJ 15 zL 0 op (placeOf C.l C.e i) [left,t]] j) else rd C f (.rest k (zJ 15 zL 0 op (placeOf C.l C.e i) [left,t])) j
   |_=>none
 |f+1, .unary,i=>
  if comesB C.l i ⟨#[45]⟩ then andThen (rd C f .unary (i+1)) fun ts j=>some (.ok [zJ 14 zL 0 1 (placeOf C.l C.e i) ts] j)
  else if comesB C.l i ⟨#[33]⟩ then andThen (rd C f .unary (i+1)) fun ts j=>some (.ok [zJ 14 zL 0 2 (placeOf C.l C.e i) ts] j)
  else rd C f .atom i
 |f+1, .atom,i=>
  if comesB C.l i ⟨#[116,114,117,101]⟩ then some (.ok [zJ 11 zL 1 0 (placeOf C.l C.e i) []] (i+1))
  else if comesB C.l i ⟨#[102,97,108,115,101]⟩ then some (.ok [zJ 11 zL 0 0 (placeOf C.l C.e i) []] (i+1))
  else if comesB C.l i ⟨#[40]⟩ then andThen (rd C f (.row 0) (i+1)) fun ts j=>andThen (wantR C ⟨#[41]⟩ j) fun _ j'=>some (.ok ts j')
  else if namedB C.l i then
   if comesB C.l (i+1) ⟨#[91]⟩ then andThen (rd C f (.row 0) (i+2)) fun ts j=>andThen (wantR C ⟨#[93]⟩ j) fun _ j'=>some (.ok [zJ 13 (textAt C.l i) 0 0 (placeOf C.l C.e i) ts] j')
   else some (.ok [zJ 12 (textAt C.l i) 0 0 (placeOf C.l C.e i) []] (i+1))
  else andThen (z6 C i) fun x j=>some (.ok [zJ 10 zL x 0 (placeOf C.l C.e i) []] j)
 |f+1, .stmt,i=>
  if namedB C.l i then
   if comesB C.l (i+1) ⟨#[91]⟩ then
    andThen (rd C f (.row 0) (i+2)) fun ts j=>andThen (wantR C ⟨#[93]⟩ j) fun _ j=>andThen (wantR C ⟨#[58,61]⟩ j) fun _ j=>andThen (rd C f (.row 0) j) fun us j=>
     andThen (wantR C ⟨#[59]⟩ j) fun _ j=>some (.ok [zJ 3 (textAt C.l i) 0 0 (placeOf C.l C.e i) (ts++us)] j)
   else
    andThen (wantR C ⟨#[58,61]⟩ (i+1)) fun _ j=>andThen (rd C f (.row 0) j) fun us j=>
     andThen (wantR C ⟨#[59]⟩ j) fun _ j=>some (.ok [zJ 2 (textAt C.l i) 0 0 (placeOf C.l C.e i) us] j)
  else if comesB C.l i ⟨#[105,110,112,117,116]⟩ then andThen (yx C (i+1)) fun s j=>andThen (wantR C ⟨#[59]⟩ j) fun _ j=>some (.ok [zJ 4 s 0 0 (placeOf C.l C.e i) []] j)
  else if comesB C.l i ⟨#[97,115,115,101,114,116]⟩ then andThen (rd C f (.row 0) (i+1)) fun ts j=>andThen (wantR C ⟨#[59]⟩ j) fun _ j=>some (.ok [zJ 5 zL 0 0 (placeOf C.l C.e i) ts] j)
  else if comesB C.l i ⟨#[115,107,105,112]⟩ then andThen (wantR C ⟨#[59]⟩ (i+1)) fun _ j=>some (.ok [zJ 6 zL 0 0 (placeOf C.l C.e i) []] j)
  else if comesB C.l i ⟨#[105,102]⟩ then andThen (rd C f (.row 0) (i+1)) fun ts j=>andThen (rd C f .block j) fun us j=>
   if comesB C.l j ⟨#[101,108,115,101]⟩ then andThen (rd C f .block (j+1)) fun vs j=>some (.ok [zJ 7 zL 0 0 (placeOf C.l C.e i) (ts++us++vs)] j)
   else some (.ok [zJ 7 zL 0 0 (placeOf C.l C.e i) (ts++us)] j)
  else if comesB C.l i ⟨#[119,104,105,108,101]⟩ then andThen (rd C f (.row 0) (i+1)) fun ts j=>andThen (rd C f .block j) fun us j=>some (.ok [zJ 8 zL 0 0 (placeOf C.l C.e i) (ts++us)] j)
  else some (.ok [] i)
 |f+1, .stmts,i=>andThen (rd C f .stmt i) fun ts j=>if ts.isEmpty then some (.ok [] j) else andThen (rd C f .stmts j) fun us j=>some (.ok (ts++us) j)
 |f+1, .block,i=>andThen (wantR C ⟨#[123]⟩ i) fun _ j=>andThen (rd C f .stmts j) fun ts j=>andThen (wantR C ⟨#[125]⟩ j) fun _ j=>some (.ok [zJ 9 zL 0 0 (placeOf C.l C.e i) ts] j)
 |f+1, .prog,i=>
  if comesB C.l i ⟨#[118,97,114]⟩ then andThen (yx C (i+1)) fun s j=>andThen (wantR C ⟨#[59]⟩ j) fun _ j=>andThen (rd C f .prog j) fun us j=>some (.ok (zJ 0 s 0 0 (placeOf C.l C.e i) []::us) j)
  else if comesB C.l i ⟨#[97,114,114,97,121]⟩ then andThen (yx C (i+1)) fun s j=>andThen (wantR C ⟨#[91]⟩ j) fun _ j=>andThen (z6 C j) fun x j=>andThen (wantR C ⟨#[93]⟩ j) fun _ j=>
   andThen (wantR C ⟨#[59]⟩ j) fun _ j=>andThen (rd C f .prog j) fun us j=>some (.ok (zJ 1 s x 0 (placeOf C.l C.e i) []::us) j)
  else andThen (rd C f .stmts i) fun ts j=>if j<C.l.length then some (.no (placeOf C.l C.e j)) else some (.ok ts j)
inductive TrAt (X:Nat->Prop) (w:World):Nat->Tr->Prop
 |mk (p:Nat) (n:Nd) (ks:List Tr) (b:Option Addr) (cap g:Nat) (q:Nat->Nat) (hp:w.heap[p]? =some (.cells #[.int .i64 n.depth, .int .i64 n.kind, .string n.name, .int .i64 n.num, .int .i64 n.op, .int .i64 n.at_, .slice b ks.length cap] 148 (0,0))) (hpr:¬X p)
  (hb:ks≠[]->b=some ⟨g,0,none⟩) (hgr:ks≠[]->¬X g) (hcap:ks.length<=cap) (hc:∀j t,ks[j]? =some t->w.cell? ⟨g,j,none⟩=some (.pointer (some ⟨q j,0,none⟩))) (hk:∀j t,ks[j]? =some t->TrAt X w (q j) t):TrAt X w p (.mk n ks)
theorem TrAt.lt{X:Nat->Prop}{w:World}{p:Nat}{t:Tr}(h:TrAt X w p t):p<w.heap.size/\¬X p:=by
 cases h with
 |mk _ _ _ _ _ _ _ hp hpr=>exact⟨(Array.getElem?_eq_some_iff.1 hp).1,hpr⟩
theorem TrAt.kept{X:Nat->Prop}{w w':World}(hk:∀k,k<w.heap.size->¬X k->w'.heap[k]? =w.heap[k]?){p:Nat}{t:Tr}(h:TrAt X w p t):TrAt X w' p t:=by
 induction h with
 |mk p n ks b cap g q hp hpr hb hgr hcap hc hkk ih=>
  refine .mk p n ks b cap g q ?_ hpr hb hgr hcap ?_ ih
  ·rw[hk p (Array.getElem?_eq_some_iff.1 hp).1 hpr];exact hp
  ·intro j t hj
   have hne:ks≠[]:=by rintro rfl;simp at hj
   have hl:=World.block_lt_of_cell? w ⟨g,j,none⟩ (hc j t hj)
   exact(World.cell?_of_block (a:=⟨g,j,none⟩) (hk g hl (hgr hne))).trans (hc j t hj)
theorem TrAt.mono{X X':Nat->Prop}(hX:∀k,X' k->X k){w:World}{p:Nat}{t:Tr}(h:TrAt X w p t):TrAt X' w p t:=by
 induction h with
 |mk p n ks b cap g q hp hpr hb hgr hcap hc hkk ih=>exact .mk p n ks b cap g q hp (fun h=>hpr (hX _ h)) hb (fun h h'=>hgr h (hX _ h')) hcap hc ih
theorem TrAt.bound{X:Nat->Prop}{w:World}{p:Nat}{t:Tr}(h:TrAt X w p t):TrAt (fun k=>X k\/w.heap.size<=k) w p t:=by
 induction h with
 |mk p n ks b cap g q hp hpr hb hgr hcap hc hkk ih=>
  refine .mk p n ks b cap g q hp (fun h=>h.elim hpr fun h=>?_) hb (fun hne h=>h.elim (hgr hne) fun h=>?_) hcap hc ih
  ·have:=(Array.getElem?_eq_some_iff.1 hp).1;omega
  ·cases hks:ks with
   |nil=>exact hne hks
   |cons t l=>
    have:=World.block_lt_of_cell? w ⟨g,0,none⟩ (hc 0 t (by rw[hks];rfl))
    simp only at this
    omega
def Old(C:Ctx)(w0:World)(k:Nat):Prop:=k=C.r\/k<w0.heap.size
theorem old_le{C:Ctx}{w w1:World}(h:w.grownBy w1 (some C.r)):∀k,Old C w k->Old C w1 k:=fun k hk=>hk.imp id fun h'=>Nat.lt_of_lt_of_le h' h.size
theorem TrAt.grew{C:Ctx}{w0 w w':World}(hg:w.grownBy w' (some C.r)){p:Nat}{t:Tr}(h:TrAt (Old C w0) w p t):TrAt (Old C w0) w' p t:=
 h.kept fun k hk hx=>hg.block k hk (by simp;rintro rfl;exact hx (.inl rfl))
theorem u229:∃e,Tryz.prog.underlying 229=some (.map 9 e)/\((Tryz.prog.info? e).map fun i=>i.zero)=some (some (.int .i64 0)):=⟨48,by kernel_rfl,by kernel_rfl⟩
theorem u9:Tryz.prog.underlying 9=some .string:=by kernel_rfl
theorem run_checkKey(b:Bool)(s:ByteArray)(w:World):(Instr.checkKey b 10000 9 (.string s)).run Tryz.prog w= .ok () w:=by
 unfold Instr.checkKey
 simp[run_underlying u9]
theorem ziq(w:World)(m:Nat)(es:Array MapEntry)(c:Nat)(s:ByteArray)(x:Int)(hm:w.heap[m]? =some (.map es c))(h:Instr.findNow .string (.string s) es.toList 0=some none):
 (Instr.mapUpdate 229 (.map (some m)) (.string s) (.int .i64 x)).run Tryz.prog w= .ok () {w with heap:=w.heap.setIfInBounds m (.map (es.push {key:= .string s,val:= .int .i64 x,born:=c}) (c+1))}:=by
 obtain⟨e,hu,hz⟩:=u229
 have hk:(Instr.findKey 9 (.string s) es.toList).run Tryz.prog w= .ok none w:=by
  unfold Instr.findKey
  simp[run_underlying u9,h]
 unfold Instr.mapUpdate
 simp[run_underlying hu,getObj,Sem.run,hm,run_checkKey,hk,setObj]
theorem zek(w:World)(o o':Obj):({w.alloc o with heap:=(w.alloc o).heap.setIfInBounds w.heap.size o'}:World)=w.alloc o':=by
 have h:(w.heap.push o).setIfInBounds w.heap.size o'=w.heap.push o':=by
  apply Array.ext_getElem?
  intro i
  by_cases hi:i=w.heap.size
  ·subst hi;simp
  ·rw[Array.getElem?_setIfInBounds_ne (Ne.symm hi),Array.getElem?_push,Array.getElem?_push,if_neg hi,if_neg hi]
 show({heap:=(w.heap.push o).setIfInBounds w.heap.size o',tape:=w.tape,drawn:=w.drawn,os:=w.os,output:=w.output}:World)={heap:=w.heap.push o',tape:=w.tape,drawn:=w.drawn,os:=w.os,output:=w.output}
 rw[h]
theorem yZ(w:World)(es:Array MapEntry)(c:Nat)(s:ByteArray)(x:Int)(h:Instr.findNow .string (.string s) es.toList 0=some none):
 (Instr.mapUpdate 229 (.map (some w.heap.size)) (.string s) (.int .i64 x)).run Tryz.prog (w.alloc (.map es c))= .ok () (w.alloc (.map (es.push {key:= .string s,val:= .int .i64 x,born:=c}) (c+1))):=by
 rw[ziq _ _ es c s x (heap_alloc_new w _) h]
 exact congrArg (Result.ok ()) (zek w _ _)
theorem zgH(w:World)(m:Nat)(es:Array MapEntry)(c:Nat)(s:ByteArray)(r:Option (Nat×Value))(hm:w.heap[m]? =some (.map es c))(h:Instr.findNow .string (.string s) es.toList 0=some r):
 (Instr.lookup 229 (.map (some m)) (.string s) true).run Tryz.prog w= .ok (.tuple #[(r.map (·.2)).getD (.int .i64 0), .bool r.isSome]) w:=by
 obtain⟨e,hu,hz⟩:=u229
 have hk:(Instr.findKey 9 (.string s) es.toList).run Tryz.prog w= .ok r w:=by
  unfold Instr.findKey
  simp[run_underlying u9,h]
 cases hi:Tryz.prog.info? e with
 |none=>rw[hi] at hz;simp at hz
 |some i=>
  rw[hi] at hz
  simp at hz
  unfold Instr.lookup
  cases r<;>simp[run_underlying hu,getObj,Sem.run,hm,run_checkKey,hk,zeroValue,typeInfo,hi,hz]
def ent(x:List UInt8×Int)(n:Nat):MapEntry:={key:= .string ⟨x.1.toArray⟩,val:= .int .i64 x.2,born:=n}
def jn(k:Nat):Array MapEntry:=((opsOf k).zipIdx.map fun x=>ent x.1 x.2).toArray
theorem zb9(s:ByteArray):∀(l:List (List UInt8×Int)) (n i:Nat),∃j,Instr.findNow .string (.string s) ((l.zipIdx n).map fun x=>ent x.1 x.2) i=some ((l.lookup s.toList).map fun v=>(j, .int .i64 v)):=by
 intro l
 induction l with
 |nil=>intro n i;exact⟨0,rfl⟩
 |cons x l ih=>
  intro n i
  obtain⟨j,hj⟩:=ih (n+1) (i+1)
  obtain⟨a,v⟩:=x
  simp only[List.zipIdx_cons,List.map_cons,Instr.findNow,ent,Instr.sameNow]
  by_cases h:s.toList=a
  ·have hb:(s==(⟨a.toArray⟩:ByteArray))=true:=by rw[beq_toListBytes];simp[h]
   rw[hb]
   refine⟨i,?_⟩
   simp[List.lookup,h]
  ·have hb:(s==(⟨a.toArray⟩:ByteArray))=false:=by rw[beq_toListBytes];simp[h]
   rw[hb]
   refine⟨j,?_⟩
   have h':(s.toList==a)=false:=by simp[h]
   simp only[List.lookup,h']
   exact hj
theorem zg8(k:Nat)(w:World)(m c:Nat)(s:ByteArray)(hm:w.heap[m]? =some (.map (jn k) c)):
 (Instr.lookup 229 (.map (some m)) (.string s) true).run Tryz.prog w= .ok (.tuple #[.int .i64 (((opsOf k).lookup s.toList).getD 0), .bool ((opsOf k).lookup s.toList).isSome]) w:=by
 obtain⟨j,hj⟩:=zb9 s (opsOf k) 0 0
 rw[zgH w m (jn k) c s _ hm (by simpa [jn] using hj)]
 cases (opsOf k).lookup s.toList<;>rfl
def isTree(C:Ctx)(w0:World):List Tr->Value->World->Prop:=fun ts v w'=>∃t p,ts=[t]/\v= .pointer (some ⟨p,0,none⟩)/\TrAt (Old C w0) w' p t
theorem zE{α:Type}{C:Ctx}{F:FuncId}{a:Array Value}{w:World}{p:Int}{val:α->Value->World->Prop}(h:Calls Tryz.prog F a w (zG C w (.no p) val)):Calls Tryz.prog F a w fun e w'=>∃ch,e= .panicked ch/\je C w p ch w':=by
 refine h.mono fun e w' he=>?_
 cases e with
 |returned v=>obtain⟨_,_,h,_⟩:=he;cases h
 |panicked ch=>obtain⟨q,h,hF⟩:=he;cases h;exact⟨ch,rfl,hF⟩
 |outgrown=>exact he.elim
theorem zz{C:Ctx}{F:FuncId}{a:Array Value}{w:World}{ts:List Tr}{j:Nat}(h:Calls Tryz.prog F a w (zG C w (.ok ts j) (isTree C w))):Calls Tryz.prog F a w fun e w'=>∃t p,ts=[t]/\e= .returned (.pointer (some ⟨p,0,none⟩))/\TrAt (Old C w) w' p t/\Rd C j w'/\Grew C w w':=by
 refine h.mono fun e w' he=>?_
 cases e with
 |returned v=>obtain⟨_,_,h,⟨t,p,h1,rfl,h2⟩,h3,h4⟩:=he;cases h;exact⟨t,p,h1,rfl,h2,h3,h4⟩
 |panicked ch=>obtain⟨q,h,hF⟩:=he;cases h
 |outgrown=>exact he.elim
theorem evalT4(a:Act)(n:Nat):a.eval (.tmp n)=a.tmps.getD n undef:=rfl
theorem zfx{a:Act}{o:Oper}{n:Nat}{fk:FuncId}{first cap:Array Value}{ts:Array TypeId}{w:World}(hfk:∀args w,(callFunc fk args).run Tryz.prog w= .ok (.enter fk args) w)(ho:o.op= .call {callee:= .value (.tmp n),args:= #[],argTypes:=ts})(h:a.tmps.getD n undef= .func (.func fk) first cap):
 (execOp a.eval o).run Tryz.prog w= .ok (.enter fk (first++cap)) w:=by
 unfold execOp
 rw[ho]
 simp[resolve,evalT4,h,Deferred.ofValue,invoke,hfk]
theorem post_tree{C:Ctx}{w wr:World}{r:Res (List Tr)}{t:Tr}{p j:Nat}(hr:r= .ok [t] j)(hT:TrAt (Old C w) wr p t)(hR:Rd C j wr)(hG:Grew C w wr)(n:Nat):zG C w r (isTree C w) (.returned (.pointer (some ⟨p,0,none⟩))) (wr.drewN n):=
 ⟨[t],j,hr,⟨t,p,rfl,rfl,hT.grew (Grew.drewN wr n)⟩,hR.drewN n,grown_trans hG (Grew.drewN wr n)⟩
theorem yC(C:Ctx)(i:Nat)(w:World)(h:Rd C i w):Calls Tryz.prog 78 #[.pointer (some ⟨C.r,0,none⟩)] w fun x w'=>x= .returned (.int .i64 (placeOf C.l C.e i))/\Rd C i w'/\Grew C w w':=
 (zfB C i w h).mono fun e w' ⟨h1,n,h2⟩=>by subst h2;exact⟨h1,h.drewN n,Grew.drewN w n⟩
def zj0(C:Ctx)(f k:Nat)(fk:FuncId)(args:Array Value)(Inv:World->Prop):Prop:=
 ∀f',f'<=f->∀i w r,rd C f' (.row (k+1)) i=some r->Rd C i w->Inv w->Calls Tryz.prog fk args w (zG C w r (isTree C w))
def xI(X:Nat->Prop)(w:World)(b:Option Addr)(cap:Nat)(ks:List Tr):Prop:=
 ∃(g:Nat) (q:Nat->Nat),(ks≠[]->b=some ⟨g,0,none⟩)/\(ks≠[]->¬X g)/\ks.length<=cap/\(∀(j:Nat) (t:Tr),ks[j]? =some t->w.cell? ⟨g,j,none⟩=some (.pointer (some ⟨q j,0,none⟩)))/\∀(j:Nat) (t:Tr),ks[j]? =some t->TrAt X w (q j) t
theorem xI.kept{X:Nat->Prop}{w w':World}(hk:∀k,k<w.heap.size->¬X k->w'.heap[k]? =w.heap[k]?){b:Option Addr}{cap:Nat}{ks:List Tr}(h:xI X w b cap ks):xI X w' b cap ks:=by
 obtain⟨g,q,h1,h2,h3,h4,h5⟩:=h
 refine⟨g,q,h1,h2,h3,fun j t hj=>?_,fun j t hj=>(h5 j t hj).kept hk⟩
 have hne:ks≠[]:=by rintro rfl;simp at hj
 have hl:=World.block_lt_of_cell? w ⟨g,j,none⟩ (h4 j t hj)
 exact(World.cell?_of_block (a:=⟨g,j,none⟩) (hk g hl (h2 hne))).trans (h4 j t hj)
theorem xI.grew{C:Ctx}{w0 w w':World}(hg:Grew C w w'){b:Option Addr}{cap:Nat}{ks:List Tr}(h:xI (Old C w0) w b cap ks):xI (Old C w0) w' b cap ks:=
 h.kept fun k hk hx=>hg.block k hk (by simp;rintro rfl;exact hx (.inl rfl))
theorem tr_leaf{C:Ctx}{w0 w:World}(n:Nd){b:Option Addr}{cap:Nat}{ks:List Tr}(h:xI (Old C w0) w b cap ks)(hr:C.r<w.heap.size)(h0:w0.heap.size<=w.heap.size):
 TrAt (Old C w0) ((w.alloc (.cells #[.int .i64 n.depth, .int .i64 n.kind, .string n.name, .int .i64 n.num, .int .i64 n.op, .int .i64 n.at_] 50)).alloc (.cells #[.int .i64 n.depth, .int .i64 n.kind, .string n.name, .int .i64 n.num, .int .i64 n.op, .int .i64 n.at_, .slice b ks.length cap] 148)) (w.heap.size+1) (.mk n ks):=by
 have hg:Grew C w ((w.alloc (.cells #[.int .i64 n.depth, .int .i64 n.kind, .string n.name, .int .i64 n.num, .int .i64 n.op, .int .i64 n.at_] 50)).alloc (.cells #[.int .i64 n.depth, .int .i64 n.kind, .string n.name, .int .i64 n.num, .int .i64 n.op, .int .i64 n.at_, .slice b ks.length cap] 148)):=grown_trans (World.grownBy_alloc _ _ _) (World.grownBy_alloc _ _ _)
 obtain⟨g,q,h1,h2,h3,h4,h5⟩:=h.grew hg
 refine .mk _ n ks b cap g q ?_ (by unfold Old;omega) h1 h2 h3 h4 h5
 have:=heap_alloc_new (w.alloc (.cells #[.int .i64 n.depth, .int .i64 n.kind, .string n.name, .int .i64 n.num, .int .i64 n.op, .int .i64 n.at_] 50)) (.cells #[.int .i64 n.depth, .int .i64 n.kind, .string n.name, .int .i64 n.num, .int .i64 n.op, .int .i64 n.at_, .slice b ks.length cap] 148)
 simpa using this
theorem wE(X:Nat->Prop)(w:World)(b:Option Addr)(cap:Nat):xI X w b cap []:=⟨0,fun _=>0,fun h=>absurd rfl h,fun h=>absurd rfl h,Nat.zero_le _,fun j t hj=>by simp at hj,fun j t hj=>by simp at hj⟩
theorem zkc{C:Ctx}{w0 w:World}{p:Nat}{t:Tr}(h:TrAt (Old C w0) w p t)(hr:C.r<w.heap.size)(h0:w0.heap.size<=w.heap.size):xI (Old C w0) (w.alloc (.cells #[.pointer (some ⟨p,0,none⟩)] 89)) (some ⟨w.heap.size,0,none⟩) 1 [t]:=by
 have hg:Grew C w (w.alloc (.cells #[.pointer (some ⟨p,0,none⟩)] 89)):=World.grownBy_alloc _ _ _
 refine⟨w.heap.size,fun _=>p,fun _=>rfl,fun _=>by unfold Old;omega,Nat.le_refl _,fun j u hj=>?_,fun j u hj=>?_⟩
 ·match j,hj with
  |0,hj=>simp[go_sem]
  |j+1,hj=>simp at hj
 ·match j,hj with
  |0,hj=>simp at hj;subst hj;exact h.grew hg
  |j+1,hj=>simp at hj
theorem zkb{C:Ctx}{w0 w:World}{p p2:Nat}{t t2:Tr}(h:TrAt (Old C w0) w p t)(h2:TrAt (Old C w0) w p2 t2)(hr:C.r<w.heap.size)(h0:w0.heap.size<=w.heap.size):xI (Old C w0) (w.alloc (.cells #[.pointer (some ⟨p,0,none⟩), .pointer (some ⟨p2,0,none⟩)] 89)) (some ⟨w.heap.size,0,none⟩) 2 [t,t2]:=by
 have hg:Grew C w (w.alloc (.cells #[.pointer (some ⟨p,0,none⟩), .pointer (some ⟨p2,0,none⟩)] 89)):=World.grownBy_alloc _ _ _
 refine⟨w.heap.size,fun j=>if j=0 then p else p2,fun _=>rfl,fun _=>by unfold Old;omega,Nat.le_refl _,fun j u hj=>?_,fun j u hj=>?_⟩
 ·match j,hj with
  |0,hj=>simp[go_sem]
  |1,hj=>simp[go_sem]
  |j+2,hj=>simp at hj
 ·match j,hj with
  |0,hj=>simp at hj;subst hj;exact h.grew hg
  |1,hj=>simp at hj;subst hj;exact h2.grew hg
  |j+2,hj=>simp at hj
theorem uy{C:Ctx}(w:World)(o1 o2 o3:Obj):Grew C w (((w.alloc o1).alloc o2).alloc o3):=grown_trans (grown_trans (World.grownBy_alloc _ _ _) (World.grownBy_alloc _ _ _)) (World.grownBy_alloc _ _ _)
theorem kL(C:Ctx)(k f f2:Nat)(fk:FuncId)(first cap:Array Value)(m c:Nat)(Inv:World->Prop)(hfk:∀args w,(callFunc fk args).run Tryz.prog w= .ok (.enter fk args) w)(hI:∀w w',Inv w->Grew C w w'->Inv w')
 (hB:zj0 C f k fk (first++cap) Inv) (hf2:f2<=f) (i:Nat) (w:World) (r:Res (List Tr)) (hr:(andThen (rd C f2 (.row (k+1)) i) fun ts j=>match ts with
  |[t]=>rd C f2 (.rest k t) j
  |_=>none)=some r) (h:Rd C i w) (hw:Inv w) (hm:w.heap[m]? =some (.map (jn k) c)) (hmr:m≠C.r) (b:Bool) (hb:b=decide (k=2)):
 Calls Tryz.prog 168 #[.pointer (some ⟨C.r,0,none⟩), .func (.func fk) first cap, .bool b, .map (some m)] w (zG C w r (isTree C w)):=by
 cases hx:rd C f2 (.row (k+1)) i with
 |none=>rw[hx] at hr;cases hr
 |some x=>
  rw[hx] at hr
  have hC:=hB f2 hf2 i w x hx h hw
  cases x with
  |no p=>
   simp only[andThen,Option.some.injEq] at hr
   subst hr
   have hC:=zE hC
   clear hx h hw hm
   go_enter Tryz.func168,Tryz.ntmps168
   go_wp2_with (first|(refine(hC).mono ?_;rintro e w' ⟨ch,rfl,hF⟩))
   exact⟨rfl,_,rfl,hF⟩
  |ok ts j=>
   obtain⟨t0,rfl⟩:∃t0,ts=[t0]:=by
    cases ts with
    |nil=>simp[andThen] at hr
    |cons t0 l=>cases l with
     |nil=>exact⟨t0,rfl⟩
     |cons _ _=>simp[andThen] at hr
   simp only[andThen] at hr
   have hC:=zz hC
   have HR:=Lib.hid hr
   have HM:=Lib.hid hm
   have HI:=Lib.hid hI
   have HB:=Lib.hid hB
   have HBB:=Lib.hid hb
   clear hx hr h hm hI hB hb
   go_enter Tryz.func168,Tryz.ntmps168
   go_wp2_with (first|(refine(hC).mono ?_;rintro e w' ⟨t,p,hte,rfl,hT,hR,hG⟩))
   obtain rfl:t0=t:=by simpa using hte
   clear hte hC
   have HW:=Lib.hid (HI.out _ _ hw hG)
   have HT:=Lib.hid hT
   have HRd:=Lib.hid hR
   have HG:=Lib.hid hG
   clear hT hR hG hw
   go_loopg [9] f2 (fun g x wr=>∃t p j,x= .pointer (some ⟨p,0,none⟩)/\TrAt (Old C w) wr p t/\Rd C j wr/\Grew C w wr/\Inv wr/\g<=f2/\rd C g (.rest k t) j=some r)
   case atStart=>exact⟨_,_,_,rfl,HT.out,HRd.out,HG.out,HW.out,Nat.le_refl _,HR.out⟩
   case round=>
    clear HT HRd HG HW HR
    obtain⟨t,p,j,rfl,hT,hR,hG,hW,hgf,hr⟩:=hrel
    have hnot:¬(j<C.l.length/\∃x,C.l[j]? =some x/\x.kind=2)->opAt k C.l j=none:=by
     intro hn
     unfold opAt
     cases hx:C.l[j]? with
     |none=>rfl
     |some x=>
      have hk:x.kind≠2:=fun hk=>hn ⟨(List.getElem?_eq_some_iff.1 hx).1,x,hx,hk⟩
      simp[hk]
    have hend:opAt k C.l j=none->r= .ok [t] j:=by
     intro hn
     cases gk with
     |zero=>cases hr
     |succ g=>
      simp only[rd,hn,Option.some.injEq] at hr
      exact hr.symm
    have hs:=hR.ci
    have hlen:=hR.len
    by_cases hlt:j<C.l.length
    ·obtain⟨g0,cp,q0,hcap,hg0,hxx⟩:=hR.cells hlt
     obtain⟨x,hx⟩:∃x,C.l[j]? =some x:=⟨_,List.getElem?_eq_getElem hlt⟩
     obtain⟨x0,x1,x2,x3⟩:=hxx x hx
     have hdd:decide ((C.l.length:Int)<=(j:Int))=false:=by simp;omega
     by_cases hk:x.kind=2
     ·have hmw:wr.heap[m]? =some (.map (jn k) c):=(hG.block m (Array.getElem?_eq_some_iff.1 HM.out).1 (by simp[hmr])).trans HM.out
      have hlk:∀n,(Instr.lookup 229 (.map (some m)) (.string x.text) true).run Tryz.prog (wr.drewN n)= .ok (.tuple #[.int .i64 (((opsOf k).lookup x.text.toList).getD 0), .bool ((opsOf k).lookup x.text.toList).isSome]) (wr.drewN n):=fun n=>zg8 k (wr.drewN n) m c x.text hmw
      rw[hk] at x0
      cases hop:(opsOf k).lookup x.text.toList with
      |none=>
       rw[hop] at hlk
       simp only[Option.getD_none,Option.isSome_none] at hlk
       have hres:=hend (by unfold opAt;rw[hx];simp[hk,hop])
       have HE:=Lib.hid hres
       have HT:=Lib.hid hT
       have HRd:=Lib.hid hR
       have HG:=Lib.hid hG
       clear hres hT hR hG hr hW hend hnot hxx hx hk x2 x3 hmw hop
       go_wp2_with fail
       go_quiet (fail)
       go_wp2_with fail
       go_quiet (fail)
       go_wp2_with fail
       go_ret
       exact post_tree HE.out HT.out HRd.out HG.out _
      |some op=>
       rw[hop] at hlk
       simp only[Option.getD_some,Option.isSome_some] at hlk
       have hoa:opAt k C.l j=some op:=by unfold opAt;rw[hx];simp[hk,hop]
       have hat:=fun n=>yC C j _ (hR.drewN n)
       have hpl:placeOf C.l C.e j=x.pos:=by unfold placeOf;rw[hx]
       have hfz:=hR.froz
       have HT:=Lib.hid hT
       have HRd:=Lib.hid hR
       have HG:=Lib.hid hG
       have HR:=Lib.hid hr
       have HW:=Lib.hid hW
       have HO:=Lib.hid hoa
       have HP:=Lib.hid hpl
       have hltr:=hR.lt
       clear hT hR hG hr hW hend hnot hxx hx hk x2 x3 hmw hop hoa hpl
       go_wp2_with fail
       go_quiet (fail)
       go_wp2_with fail
       go_quiet (fail)
       go_upto_region 9 with(go_at_call 78;refine(hat _).mono ?_;rintro e w2 ⟨rfl,hR2,hG2⟩;have c1:=hR2.ci;have cf:=hR2.froz;have cl:=hR2.lt)
       have hRW:=(hR2.next (j:=j+1) hlt).alloc (Obj.cells #[Value.int IntKind.i64 0,Value.int IntKind.i64 15,Value.string {data:= #[]},Value.int IntKind.i64 0,Value.int IntKind.i64 op,Value.int IntKind.i64 (placeOf C.l C.e j)] 50)
       have hgW:=grown_trans (grown_trans (grown_trans HG.out (Grew.drewN wr _)) hG2) (grown_trans (zq w2 C.r 1 (.int .i64 ((j+1:Nat):Int))) (World.grownBy_alloc _ (Obj.cells #[Value.int IntKind.i64 0,Value.int IntKind.i64 15,Value.string {data:= #[]},Value.int IntKind.i64 0,Value.int IntKind.i64 op,Value.int IntKind.i64 (placeOf C.l C.e j)] 50) (some C.r)))
       have hgV:=grown_trans (grown_trans (Grew.drewN wr _) hG2) (grown_trans (zq w2 C.r 1 (.int .i64 ((j+1:Nat):Int))) (World.grownBy_alloc _ (Obj.cells #[Value.int IntKind.i64 0,Value.int IntKind.i64 15,Value.string {data:= #[]},Value.int IntKind.i64 0,Value.int IntKind.i64 op,Value.int IntKind.i64 (placeOf C.l C.e j)] 50) (some C.r)))
       have hTW:=HT.out.grew hgV
       have hIW:=HI.out _ _ HW.out hgV
       have hD:∀o v,[Value.int IntKind.i64 0,Value.int IntKind.i64 15,Value.string {data:= #[]},Value.int IntKind.i64 0,Value.int IntKind.i64 op,Value.int IntKind.i64 (placeOf C.l C.e j)][o]? =some v->((w2.setCell {block:=C.r,off:=1} (Value.int IntKind.i64 ((j+1:Nat):Int))).alloc (Obj.cells #[Value.int IntKind.i64 0,Value.int IntKind.i64 15,Value.string {data:= #[]},Value.int IntKind.i64 0,Value.int IntKind.i64 op,Value.int IntKind.i64 (placeOf C.l C.e j)] 50)).cell? ⟨w2.heap.size,o,none⟩=some v:=by
        intro o v hv
        match o,hv with
        |0,hv=>simp at hv;subst hv;simp[go_sem]
        |1,hv=>simp at hv;subst hv;simp[go_sem]
        |2,hv=>simp at hv;subst hv;simp[go_sem]
        |3,hv=>simp at hv;subst hv;simp[go_sem]
        |4,hv=>simp at hv;subst hv;simp[go_sem]
        |5,hv=>simp at hv;subst hv;simp[go_sem]
        |o+6,hv=>simp at hv
       have hNr:w2.heap.size≠C.r:=by omega
       have hNW:w2.heap.size<((w2.setCell {block:=C.r,off:=1} (Value.int IntKind.i64 ((j+1:Nat):Int))).alloc (Obj.cells #[Value.int IntKind.i64 0,Value.int IntKind.i64 15,Value.string {data:= #[]},Value.int IntKind.i64 0,Value.int IntKind.i64 op,Value.int IntKind.i64 (placeOf C.l C.e j)] 50)).heap.size:=by simp
       rw[show((↑j:Int)+1)=((j+1:Nat):Int) from rfl]
       generalize ((w2.setCell {block:=C.r,off:=1} (Value.int IntKind.i64 ((j+1:Nat):Int))).alloc (Obj.cells #[Value.int IntKind.i64 0,Value.int IntKind.i64 15,Value.string {data:= #[]},Value.int IntKind.i64 0,Value.int IntKind.i64 op,Value.int IntKind.i64 (placeOf C.l C.e j)] 50))=W at hRW hgW hgV hTW hIW hD hNW⊢
       generalize w2.heap.size=N at hD hNr hNW⊢
       clear hgV hG2 hR2 c1 cf cl hlk hat hfz x0 x1 q0 hs hdd
       have D0:=hD 0 _ rfl
       have D1:=hD 1 _ rfl
       have D2:=hD 2 _ rfl
       have D3:=hD 3 _ rfl
       have D4:=hD 4 _ rfl
       have D5:=hD 5 _ rfl
       clear hD
       have hr:=HR.out
       cases gk with
       |zero=>cases hr
       |succ g=>
        simp only[rd,HO.out] at hr
        cases hx2:rd C g (.row (k+1)) (j+1) with
        |none=>rw[hx2] at hr;cases hr
        |some y=>
         rw[hx2] at hr
         have hC2:=HB.out g (by omega) (j+1) W.drew y hx2 (hRW.drewN 1) (HI.out _ _ hIW (Grew.drewN W 1))
         have HRW:=Lib.hid hRW
         have HGW:=Lib.hid hgW
         have HTW:=Lib.hid hTW
         have HIW:=Lib.hid hIW
         have HR2:=Lib.hid hr
         clear hRW hgW hTW hIW hr hx2 HR HT HRd HG HW
         cases y with
         |no p2=>
          have hC2:=zE hC2
          have HR3:r=Res.no p2:=by
           have:=HR2.out
           simp only[andThen,Option.some.injEq] at this
           exact this.symm
          have hQ:∀(d:Option Tmp) (v:Value) (c:List PanicEntry) (a:Act) (w':World),bodyPost Tryz.prog Tryz.f168 (zG C w r (isTree C w)) (.panic c) (a.put d v) w'->bodyPost Tryz.prog Tryz.f168 (zG C w r (isTree C w)) (.panic c) a w':=by
           intro d v c a w' h
           refine⟨?_,h.2⟩
           have h1:=h.1
           cases d<;>exact h1
          refine wp_region_held_drew (S:=fun w'=>w'.cell? ⟨N,0,none⟩=some (Value.int IntKind.i64 0)/\w'.cell? ⟨N,1,none⟩=some (Value.int IntKind.i64 15)/\w'.cell? ⟨N,2,none⟩=some (Value.string {data:= #[]})/\w'.cell? ⟨N,3,none⟩=some (Value.int IntKind.i64 0)/\w'.cell? ⟨N,4,none⟩=some (Value.int IntKind.i64 op)/\w'.cell? ⟨N,5,none⟩=some (Value.int IntKind.i64 (placeOf C.l C.e j))) rfl ⟨D0,D1,D2,D3,D4,D5⟩ fun hS=>?_
          refine wpAnyH_take (i:=0) (oi:=_) (v:= .agg #[Value.int IntKind.i64 0,Value.int IntKind.i64 15,Value.string {data:= #[]},Value.int IntKind.i64 0,Value.int IntKind.i64 op,Value.int IntKind.i64 (placeOf C.l C.e j)]) rfl (by kernel_rfl) (by kernel_rfl) (by kernel_rfl) (fun c a w'=>hQ _ _ c a w') (.inl ⟨rfl,?_⟩) hS ?_
          ·rintro w' ⟨d0,d1,d2,d3,d4,d5⟩
           simp[execOp,evalT4,go_sem,d0,d1,d2,d3,d4,d5]
          refine wpAnyH_take (i:=1) (oi:=_) (v:= .pointer (some ⟨p,0,none⟩)) rfl (by kernel_rfl) (by kernel_rfl) (by kernel_rfl) (fun c a w'=>hQ _ _ c a w') (.inl ⟨rfl,fun w' _=>rfl⟩) hS ?_
          refine wpAnyH_take (i:=2) (oi:=_) (v:= .func (.func fk) first cap) rfl (by kernel_rfl) (by kernel_rfl) (by kernel_rfl) (fun c a w'=>hQ _ _ c a w') (.inl ⟨rfl,fun w' _=>rfl⟩) hS ?_
          refine wpAnyH_ready (rs:=[3]) (by kernel_rfl) (by simp) fun i hi=>?_
          obtain rfl:i=3:=by simpa using hi
          refine .inl ?_
          unfold Oper.wp
          rw[zfx (n:=72) (fk:=fk) (first:=first) (cap:=cap) (ts:= #[]) hfk rfl rfl]
          exact hC2.mono (by rintro e w' ⟨ch,rfl,hF⟩;exact⟨rfl,_,HR3,hF.later (grown_trans HGW.out (Grew.drewN W 1))⟩)
         |ok ts2 j2=>
          have hC2:=zz hC2
          have D0d:W.drew.cell? ⟨N,0,none⟩=some (Value.int IntKind.i64 0):=D0
          have D1d:W.drew.cell? ⟨N,1,none⟩=some (Value.int IntKind.i64 15):=D1
          have D2d:W.drew.cell? ⟨N,2,none⟩=some (Value.string {data:= #[]}):=D2
          have D3d:W.drew.cell? ⟨N,3,none⟩=some (Value.int IntKind.i64 0):=D3
          have D4d:W.drew.cell? ⟨N,4,none⟩=some (Value.int IntKind.i64 op):=D4
          have D5d:W.drew.cell? ⟨N,5,none⟩=some (Value.int IntKind.i64 (placeOf C.l C.e j)):=D5
          have hne:some N≠some C.r:=by simp[hNr]
          go_region_held3 (fun w'=>w'.cell? ⟨N,0,none⟩=some (Value.int IntKind.i64 0)/\w'.cell? ⟨N,1,none⟩=some (Value.int IntKind.i64 15)/\w'.cell? ⟨N,2,none⟩=some (Value.string {data:= #[]})/\w'.cell? ⟨N,3,none⟩=some (Value.int IntKind.i64 0)/\w'.cell? ⟨N,4,none⟩=some (Value.int IntKind.i64 op)/\w'.cell? ⟨N,5,none⟩=some (Value.int IntKind.i64 (placeOf C.l C.e j))) (first|exact⟨D0,D1,D2,D3,D4,D5⟩|exact⟨d0,d1,d2,d3,d4,d5⟩|go_keep)
           (first|(go_at_call 80;refine(leaf_any ⟨0,15,⟨#[]⟩,0,op,placeOf C.l C.e j⟩ _ _ _ _).mono ?_;rintro e w4 ⟨rfl,rfl⟩)|(refine(hC2).mono ?_;rintro e w3 ⟨t2,p2,hte,rfl,hT3,hR3,hG3⟩;have d0:=hG3.cell D0d hne;have d1:=hG3.cell D1d hne;have d2:=hG3.cell D2d hne;have d3:=hG3.cell D3d hne;have d4:=hG3.cell D4d hne;have d5:=hG3.cell D5d hne))
          subst hte
          have hgA:=grown_trans (Grew.drewN (C:=C) W 1) hG3
          have hT1:=HTW.out.grew hgA
          have hgC:=grown_trans HGW.out hgA
          have hK:=zkb hT1 (hT3.mono (old_le (grown_trans HGW.out (Grew.drewN W 1)))) hR3.lt hgC.size
          have hTn:=tr_leaf ⟨0,15,⟨#[]⟩,0,op,placeOf C.l C.e j⟩ hK (by have:=hR3.lt;simp;omega) (by have:=hgC.size;simp;omega)
          have hgB:=uy (C:=C) w3 (Obj.cells #[Value.pointer (some {block:=p,off:=0}),Value.pointer (some {block:=p2,off:=0})] 89) (Obj.cells #[Value.int IntKind.i64 0,Value.int IntKind.i64 15,Value.string {data:= #[]},Value.int IntKind.i64 0,Value.int IntKind.i64 op,Value.int IntKind.i64 (placeOf C.l C.e j)] 50) (Obj.cells #[Value.int IntKind.i64 0,Value.int IntKind.i64 15,Value.string {data:= #[]},Value.int IntKind.i64 0,Value.int IntKind.i64 op,Value.int IntKind.i64 (placeOf C.l C.e j),Value.slice (some {block:=w3.heap.size,off:=0}) 2 2] 148)
          have hR4:=((hR3.alloc (Obj.cells #[Value.pointer (some {block:=p,off:=0}),Value.pointer (some {block:=p2,off:=0})] 89)).alloc (Obj.cells #[Value.int IntKind.i64 0,Value.int IntKind.i64 15,Value.string {data:= #[]},Value.int IntKind.i64 0,Value.int IntKind.i64 op,Value.int IntKind.i64 (placeOf C.l C.e j)] 50)).alloc (Obj.cells #[Value.int IntKind.i64 0,Value.int IntKind.i64 15,Value.string {data:= #[]},Value.int IntKind.i64 0,Value.int IntKind.i64 op,Value.int IntKind.i64 (placeOf C.l C.e j),Value.slice (some {block:=w3.heap.size,off:=0}) 2 2] 148)
          have hG4:=grown_trans HGW.out (grown_trans hgA hgB)
          have hI4:=HI.out _ _ HIW.out (grown_trans hgA hgB)
          have hsz:(w3.alloc (Obj.cells #[Value.pointer (some {block:=p,off:=0}),Value.pointer (some {block:=p2,off:=0})] 89)).heap.size+1=w3.heap.size+1+1:=by simp
          rw[hsz] at hTn
          have hr:=HR2.out
          simp only[andThen] at hr
          have HT4:=Lib.hid hTn
          have HR4:=Lib.hid hR4
          have HG4:=Lib.hid hG4
          have HI4:=Lib.hid hI4
          clear hgC hgA hT1 hK hTn hgB hR4 hG4 hI4 hsz hT3 hR3 hG3 hC2 d0 d1 d2 d3 d4 d5 D0 D1 D2 D3 D4 D5 D0d D1d D2d D3d D4d D5d
          by_cases hk2:k=2
          ·rw[if_pos hk2] at hr
           have hbt:b=true:=by rw[HBB.out];simp[hk2]
           subst hbt
           have HE:=Lib.hid (Option.some.inj hr)
           clear hr hk2
           go_wp2
           go_ret
           exact post_tree HE.out.symm HT4.out HR4.out HG4.out 0
          ·rw[if_neg hk2] at hr
           have hbt:b=false:=by rw[HBB.out];simp[hk2]
           subst hbt
           have HE:=Lib.hid hr
           clear hr hk2
           go_wp2
           go_roundg g
           case measure=>omega
           case rel=>exact⟨_,_,_,rfl,HT4.out,HR4.out,HG4.out,HI4.out,by omega,HE.out⟩
     ·have hk1:(x.kind==2)=false:=by simp[hk]
      have hk2:(x.kind !=2)=true:=by simp[hk]
      have hres:=hend (hnot fun⟨_,y,hy,hy2⟩=>hk (by rw[hx] at hy;cases hy;exact hy2))
      have HE:=Lib.hid hres
      have HT:=Lib.hid hT
      have HRd:=Lib.hid hR
      have HG:=Lib.hid hG
      clear hres hT hR hG hr hW hend hnot hxx hx hk x1 x2 x3
      go_wp2_with fail
      go_quiet (fail)
      go_wp2_with fail
      go_ret
      exact post_tree HE.out HT.out HRd.out HG.out _
    ·have hdd:decide ((C.l.length:Int)<=(j:Int))=true:=by simp;omega
     have hres:=hend (hnot fun⟨h,_⟩=>hlt h)
     obtain⟨⟨b0,cp,g0,q0,_,hcap,_,_⟩,_⟩:=id hR
     have HE:=Lib.hid hres
     have HT:=Lib.hid hT
     have HRd:=Lib.hid hR
     have HG:=Lib.hid hG
     clear hres hT hR hG hr hW hend hnot
     go_wp2_with fail
     go_quiet (fail)
     go_wp2_with fail
     go_ret
     exact post_tree HE.out HT.out HRd.out HG.out _
def pre(k n:Nat):Array MapEntry:=(((opsOf k).zipIdx.map fun x=>ent x.1 x.2).take n).toArray
def Box(C:Ctx)(bx:Nat)(w:World):Prop:=w.cell? ⟨bx,0,none⟩=some (.pointer (some ⟨C.r,0,none⟩))/\bx≠C.r
theorem Box.grew{C:Ctx}{bx:Nat}(w w':World)(h:Box C bx w)(hg:Grew C w w'):Box C bx w':=⟨hg.cell h.1 (by simp[h.2]),h.2⟩
structure Exprs (C:Ctx) (f:Nat):Prop where
 expr:∀i w r,rd C f (.row 0) i=some r->Rd C i w->Calls Tryz.prog 157 #[.pointer (some ⟨C.r,0,none⟩)] w (zG C w r (isTree C w))
 r1:∀i w r bx,rd C f (.row 1) i=some r->Rd C i w->Box C bx w->Calls Tryz.prog 169 #[.pointer (some ⟨bx,0,none⟩)] w (zG C w r (isTree C w))
 r2:∀i w r bx,rd C f (.row 2) i=some r->Rd C i w->Box C bx w->Calls Tryz.prog 170 #[.pointer (some ⟨bx,0,none⟩)] w (zG C w r (isTree C w))
 r3:∀i w r bx,rd C f (.row 3) i=some r->Rd C i w->Box C bx w->Calls Tryz.prog 171 #[.pointer (some ⟨bx,0,none⟩)] w (zG C w r (isTree C w))
 r4:∀i w r bx,rd C f (.row 4) i=some r->Rd C i w->Box C bx w->Calls Tryz.prog 172 #[.pointer (some ⟨bx,0,none⟩)] w (zG C w r (isTree C w))
 r5:∀i w r,rd C f (.row 5) i=some r->Rd C i w->Calls Tryz.prog 173 #[.pointer (some ⟨C.r,0,none⟩)] w (zG C w r (isTree C w))
 unary:∀i w r,rd C f .unary i=some r->Rd C i w->Calls Tryz.prog 173 #[.pointer (some ⟨C.r,0,none⟩)] w (zG C w r (isTree C w))
 atom:∀i w r,rd C f .atom i=some r->Rd C i w->Calls Tryz.prog 181 #[.pointer (some ⟨C.r,0,none⟩)] w (zG C w r (isTree C w))
theorem zdX(C:Ctx):Exprs C 0:=by
 constructor<;>(intros;rename_i h;first|exact absurd ‹rd C 0 _ _=some _› (by simp[rd]))
theorem xD(k:Nat)(w:World):(Instr.makeMap 229 none).run Tryz.prog w= .ok (.map (some w.heap.size)) (w.alloc (.map (pre k 0) 0)):=rfl
theorem yY{f:FuncId}{fn:Func}(hf:Tryz.prog.funcs[f]? =some fn)(hn:(fn.name== "runtime.NumGoroutine")=false)(hb:fn.body.isNone=false)(args:Array Value)(w:World):(callFunc f args).run Tryz.prog w= .ok (.enter f args) w:=by
 have hn':¬fn.name= "runtime.NumGoroutine" :=by simpa using hn
 have hb':¬fn.body=none:=by intro e;rw[e] at hb;cases hb
 simp[callFunc,hf,hn',hb']
theorem cf169(args:Array Value)(w:World):(callFunc 169 args).run Tryz.prog w= .ok (.enter 169 args) w:=yY Tryz.func169 (by kernel_rfl) (by kernel_rfl) args w
theorem zkk(args:Array Value)(w:World):(callFunc 170 args).run Tryz.prog w= .ok (.enter 170 args) w:=yY Tryz.func170 (by kernel_rfl) (by kernel_rfl) args w
theorem zkj(args:Array Value)(w:World):(callFunc 171 args).run Tryz.prog w= .ok (.enter 171 args) w:=yY Tryz.func171 (by kernel_rfl) (by kernel_rfl) args w
theorem zki(args:Array Value)(w:World):(callFunc 172 args).run Tryz.prog w= .ok (.enter 172 args) w:=yY Tryz.func172 (by kernel_rfl) (by kernel_rfl) args w
theorem zkh(args:Array Value)(w:World):(callFunc 173 args).run Tryz.prog w= .ok (.enter 173 args) w:=yY Tryz.func173 (by kernel_rfl) (by kernel_rfl) args w
theorem ziX(w:World):(Instr.mapUpdate 229 (.map (some w.heap.size)) (.string {data:= #[124,124]}) (.int .i64 15)).run Tryz.prog (w.alloc (.map (pre 0 0) 0))= .ok () (w.alloc (.map (pre 0 1) 1)):=yZ w (pre 0 0) 0 ⟨#[124,124]⟩ 15 (by rfl)
theorem ziW(w:World):(Instr.mapUpdate 229 (.map (some w.heap.size)) (.string {data:= #[38,38]}) (.int .i64 14)).run Tryz.prog (w.alloc (.map (pre 1 0) 0))= .ok () (w.alloc (.map (pre 1 1) 1)):=yZ w (pre 1 0) 0 ⟨#[38,38]⟩ 14 (by rfl)
theorem ziV(w:World):(Instr.mapUpdate 229 (.map (some w.heap.size)) (.string {data:= #[60]}) (.int .i64 8)).run Tryz.prog (w.alloc (.map (pre 2 0) 0))= .ok () (w.alloc (.map (pre 2 1) 1)):=yZ w (pre 2 0) 0 ⟨#[60]⟩ 8 (by rfl)
theorem ziU(w:World):(Instr.mapUpdate 229 (.map (some w.heap.size)) (.string {data:= #[60,61]}) (.int .i64 9)).run Tryz.prog (w.alloc (.map (pre 2 1) 1))= .ok () (w.alloc (.map (pre 2 2) 2)):=yZ w (pre 2 1) 1 ⟨#[60,61]⟩ 9 (by rfl)
theorem ziT(w:World):(Instr.mapUpdate 229 (.map (some w.heap.size)) (.string {data:= #[62]}) (.int .i64 10)).run Tryz.prog (w.alloc (.map (pre 2 2) 2))= .ok () (w.alloc (.map (pre 2 3) 3)):=yZ w (pre 2 2) 2 ⟨#[62]⟩ 10 (by rfl)
theorem ziS(w:World):(Instr.mapUpdate 229 (.map (some w.heap.size)) (.string {data:= #[62,61]}) (.int .i64 11)).run Tryz.prog (w.alloc (.map (pre 2 3) 3))= .ok () (w.alloc (.map (pre 2 4) 4)):=yZ w (pre 2 3) 3 ⟨#[62,61]⟩ 11 (by rfl)
theorem ziR(w:World):(Instr.mapUpdate 229 (.map (some w.heap.size)) (.string {data:= #[61,61]}) (.int .i64 12)).run Tryz.prog (w.alloc (.map (pre 2 4) 4))= .ok () (w.alloc (.map (pre 2 5) 5)):=yZ w (pre 2 4) 4 ⟨#[61,61]⟩ 12 (by rfl)
theorem ziQ(w:World):(Instr.mapUpdate 229 (.map (some w.heap.size)) (.string {data:= #[33,61]}) (.int .i64 13)).run Tryz.prog (w.alloc (.map (pre 2 5) 5))= .ok () (w.alloc (.map (pre 2 6) 6)):=yZ w (pre 2 5) 5 ⟨#[33,61]⟩ 13 (by rfl)
theorem ziP(w:World):(Instr.mapUpdate 229 (.map (some w.heap.size)) (.string {data:= #[43]}) (.int .i64 3)).run Tryz.prog (w.alloc (.map (pre 3 0) 0))= .ok () (w.alloc (.map (pre 3 1) 1)):=yZ w (pre 3 0) 0 ⟨#[43]⟩ 3 (by rfl)
theorem ziO(w:World):(Instr.mapUpdate 229 (.map (some w.heap.size)) (.string {data:= #[45]}) (.int .i64 4)).run Tryz.prog (w.alloc (.map (pre 3 1) 1))= .ok () (w.alloc (.map (pre 3 2) 2)):=yZ w (pre 3 1) 1 ⟨#[45]⟩ 4 (by rfl)
theorem ziN(w:World):(Instr.mapUpdate 229 (.map (some w.heap.size)) (.string {data:= #[42]}) (.int .i64 5)).run Tryz.prog (w.alloc (.map (pre 4 0) 0))= .ok () (w.alloc (.map (pre 4 1) 1)):=yZ w (pre 4 0) 0 ⟨#[42]⟩ 5 (by rfl)
theorem ziM(w:World):(Instr.mapUpdate 229 (.map (some w.heap.size)) (.string {data:= #[47]}) (.int .i64 6)).run Tryz.prog (w.alloc (.map (pre 4 1) 1))= .ok () (w.alloc (.map (pre 4 2) 2)):=yZ w (pre 4 1) 1 ⟨#[47]⟩ 6 (by rfl)
theorem ziL(w:World):(Instr.mapUpdate 229 (.map (some w.heap.size)) (.string {data:= #[37]}) (.int .i64 7)).run Tryz.prog (w.alloc (.map (pre 4 2) 2))= .ok () (w.alloc (.map (pre 4 3) 3)):=yZ w (pre 4 2) 2 ⟨#[37]⟩ 7 (by rfl)
theorem zin(C:Ctx)(n:Nat)(ih:∀f,f<=n->Exprs C f)(i:Nat)(w:World)(r:Res (List Tr))(bx:Nat)(hr:rd C (n+1) (.row 1) i=some r)(h:Rd C i w)(hb:Box C bx w):Calls Tryz.prog 169 #[.pointer (some ⟨bx,0,none⟩)] w (zG C w r (isTree C w)):=by
 have hrow:∀(m:Nat) (W:World),Grew C w W->W.heap[m]? =some (.map (jn 1) 1)->m≠C.r->Rd C i W->Calls Tryz.prog 168 #[.pointer (some ⟨C.r,0,none⟩), .func (.func 170) #[] #[.pointer (some ⟨bx,0,none⟩)], .bool false, .map (some m)] W (zG C W r (isTree C W)):=fun m W hg hm hmr hR=>
  kL C 1 n n 170 #[] #[.pointer (some ⟨bx,0,none⟩)] m 1 (Box C bx) zkk (fun w w' h hg=>Box.grew w w' h hg) (fun f' hf' i w r hr hR hB=>(ih f' hf').r2 i w r bx hr hR hB) (Nat.le_refl _) i W r (by have h1:=hr;simp only[rd,show ¬5<=1 from by omega,if_false] at h1;exact h1) hR (hb.grew _ _ hg) hm hmr _ (by decide)
 have hmk:=xD 1
 have g0:=ziW
 have q0:=hb.1
 have hlt:=h.lt
 have HRd:=Lib.hid h
 clear hr h ih
 cases r with
 |no p=>
  have hrow:=fun m W a b c d=>zE (hrow m W a b c d)
  go_enter Tryz.func169,Tryz.ntmps169
  go_wp2_with (go_at_call 168;refine(hrow _ _ (World.grownBy_alloc w _ _) (heap_alloc_new w _) (by omega) (HRd.out.alloc _)).mono ?_;rintro e w' ⟨ch,rfl,hF⟩)
  exact⟨rfl,_,rfl,hF.later (World.grownBy_alloc w _ _)⟩
 |ok ts j=>
  have hrow:=fun m W a b c d=>zz (hrow m W a b c d)
  go_enter Tryz.func169,Tryz.ntmps169
  go_wp2_with (go_at_call 168;refine(hrow _ _ (World.grownBy_alloc w _ _) (heap_alloc_new w _) (by omega) (HRd.out.alloc _)).mono ?_;rintro e w' ⟨t,p,rfl,rfl,hT,hR,hG⟩)
  go_ret
  exact post_tree rfl (hT.mono (old_le (World.grownBy_alloc w _ _))) hR (grown_trans (World.grownBy_alloc w _ _) hG) 0
theorem step_r2(C:Ctx)(n:Nat)(ih:∀f,f<=n->Exprs C f)(i:Nat)(w:World)(r:Res (List Tr))(bx:Nat)(hr:rd C (n+1) (.row 2) i=some r)(h:Rd C i w)(hb:Box C bx w):Calls Tryz.prog 170 #[.pointer (some ⟨bx,0,none⟩)] w (zG C w r (isTree C w)):=by
 have hrow:∀(m:Nat) (W:World),Grew C w W->W.heap[m]? =some (.map (jn 2) 6)->m≠C.r->Rd C i W->Calls Tryz.prog 168 #[.pointer (some ⟨C.r,0,none⟩), .func (.func 171) #[] #[.pointer (some ⟨bx,0,none⟩)], .bool true, .map (some m)] W (zG C W r (isTree C W)):=fun m W hg hm hmr hR=>
  kL C 2 n n 171 #[] #[.pointer (some ⟨bx,0,none⟩)] m 6 (Box C bx) zkj (fun w w' h hg=>Box.grew w w' h hg) (fun f' hf' i w r hr hR hB=>(ih f' hf').r3 i w r bx hr hR hB) (Nat.le_refl _) i W r (by have h1:=hr;simp only[rd,show ¬5<=2 from by omega,if_false] at h1;exact h1) hR (hb.grew _ _ hg) hm hmr _ (by decide)
 have hmk:=xD 2
 have g0:=ziV
 have g1:=ziU
 have g2:=ziT
 have g3:=ziS
 have g4:=ziR
 have g5:=ziQ
 have q0:=hb.1
 have hlt:=h.lt
 have HRd:=Lib.hid h
 clear hr h ih
 cases r with
 |no p=>
  have hrow:=fun m W a b c d=>zE (hrow m W a b c d)
  go_enter Tryz.func170,Tryz.ntmps170
  go_wp2_with (go_at_call 168;refine(hrow _ _ (World.grownBy_alloc w _ _) (heap_alloc_new w _) (by omega) (HRd.out.alloc _)).mono ?_;rintro e w' ⟨ch,rfl,hF⟩)
  exact⟨rfl,_,rfl,hF.later (World.grownBy_alloc w _ _)⟩
 |ok ts j=>
  have hrow:=fun m W a b c d=>zz (hrow m W a b c d)
  go_enter Tryz.func170,Tryz.ntmps170
  go_wp2_with (go_at_call 168;refine(hrow _ _ (World.grownBy_alloc w _ _) (heap_alloc_new w _) (by omega) (HRd.out.alloc _)).mono ?_;rintro e w' ⟨t,p,rfl,rfl,hT,hR,hG⟩)
  go_ret
  exact post_tree rfl (hT.mono (old_le (World.grownBy_alloc w _ _))) hR (grown_trans (World.grownBy_alloc w _ _) hG) 0
theorem step_r3(C:Ctx)(n:Nat)(ih:∀f,f<=n->Exprs C f)(i:Nat)(w:World)(r:Res (List Tr))(bx:Nat)(hr:rd C (n+1) (.row 3) i=some r)(h:Rd C i w)(hb:Box C bx w):Calls Tryz.prog 171 #[.pointer (some ⟨bx,0,none⟩)] w (zG C w r (isTree C w)):=by
 have hrow:∀(m:Nat) (W:World),Grew C w W->W.heap[m]? =some (.map (jn 3) 2)->m≠C.r->Rd C i W->Calls Tryz.prog 168 #[.pointer (some ⟨C.r,0,none⟩), .func (.func 172) #[] #[.pointer (some ⟨bx,0,none⟩)], .bool false, .map (some m)] W (zG C W r (isTree C W)):=fun m W hg hm hmr hR=>
  kL C 3 n n 172 #[] #[.pointer (some ⟨bx,0,none⟩)] m 2 (Box C bx) zki (fun w w' h hg=>Box.grew w w' h hg) (fun f' hf' i w r hr hR hB=>(ih f' hf').r4 i w r bx hr hR hB) (Nat.le_refl _) i W r (by have h1:=hr;simp only[rd,show ¬5<=3 from by omega,if_false] at h1;exact h1) hR (hb.grew _ _ hg) hm hmr _ (by decide)
 have hmk:=xD 3
 have g0:=ziP
 have g1:=ziO
 have q0:=hb.1
 have hlt:=h.lt
 have HRd:=Lib.hid h
 clear hr h ih
 cases r with
 |no p=>
  have hrow:=fun m W a b c d=>zE (hrow m W a b c d)
  go_enter Tryz.func171,Tryz.ntmps171
  go_wp2_with (go_at_call 168;refine(hrow _ _ (World.grownBy_alloc w _ _) (heap_alloc_new w _) (by omega) (HRd.out.alloc _)).mono ?_;rintro e w' ⟨ch,rfl,hF⟩)
  exact⟨rfl,_,rfl,hF.later (World.grownBy_alloc w _ _)⟩
 |ok ts j=>
  have hrow:=fun m W a b c d=>zz (hrow m W a b c d)
  go_enter Tryz.func171,Tryz.ntmps171
  go_wp2_with (go_at_call 168;refine(hrow _ _ (World.grownBy_alloc w _ _) (heap_alloc_new w _) (by omega) (HRd.out.alloc _)).mono ?_;rintro e w' ⟨t,p,rfl,rfl,hT,hR,hG⟩)
  go_ret
  exact post_tree rfl (hT.mono (old_le (World.grownBy_alloc w _ _))) hR (grown_trans (World.grownBy_alloc w _ _) hG) 0
theorem step_r4(C:Ctx)(n:Nat)(ih:∀f,f<=n->Exprs C f)(i:Nat)(w:World)(r:Res (List Tr))(bx:Nat)(hr:rd C (n+1) (.row 4) i=some r)(h:Rd C i w)(hb:Box C bx w):Calls Tryz.prog 172 #[.pointer (some ⟨bx,0,none⟩)] w (zG C w r (isTree C w)):=by
 have hrow:∀(m:Nat) (W:World),Grew C w W->W.heap[m]? =some (.map (jn 4) 3)->m≠C.r->Rd C i W->Calls Tryz.prog 168 #[.pointer (some ⟨C.r,0,none⟩), .func (.func 173) #[.pointer (some ⟨C.r,0,none⟩)] #[], .bool false, .map (some m)] W (zG C W r (isTree C W)):=fun m W hg hm hmr hR=>
  kL C 4 n n 173 #[.pointer (some ⟨C.r,0,none⟩)] #[] m 3 (fun _=>True) zkh (fun _ _ _ _=>trivial) (fun f' hf' i w r hr hR _=>(ih f' hf').r5 i w r hr hR) (Nat.le_refl _) i W r (by have h1:=hr;simp only[rd,show ¬5<=4 from by omega,if_false] at h1;exact h1) hR trivial hm hmr _ (by decide)
 have hmk:=xD 4
 have g0:=ziN
 have g1:=ziM
 have g2:=ziL
 have q0:=hb.1
 have hlt:=h.lt
 have HRd:=Lib.hid h
 clear hr h ih
 cases r with
 |no p=>
  have hrow:=fun m W a b c d=>zE (hrow m W a b c d)
  go_enter Tryz.func172,Tryz.ntmps172
  go_wp2_with (go_at_call 168;refine(hrow _ _ (World.grownBy_alloc w _ _) (heap_alloc_new w _) (by omega) (HRd.out.alloc _)).mono ?_;rintro e w' ⟨ch,rfl,hF⟩)
  exact⟨rfl,_,rfl,hF.later (World.grownBy_alloc w _ _)⟩
 |ok ts j=>
  have hrow:=fun m W a b c d=>zz (hrow m W a b c d)
  go_enter Tryz.func172,Tryz.ntmps172
  go_wp2_with (go_at_call 168;refine(hrow _ _ (World.grownBy_alloc w _ _) (heap_alloc_new w _) (by omega) (HRd.out.alloc _)).mono ?_;rintro e w' ⟨t,p,rfl,rfl,hT,hR,hG⟩)
  go_ret
  exact post_tree rfl (hT.mono (old_le (World.grownBy_alloc w _ _))) hR (grown_trans (World.grownBy_alloc w _ _) hG) 0
theorem skip_not(C:Ctx)(i:Nat)(s:ByteArray)(w:World)(h:Rd C i w)(hc:comesB C.l i s=false):Calls Tryz.prog 79 #[.pointer (some ⟨C.r,0,none⟩), .string s] w fun x w'=>x= .returned (.bool false)/\Rd C i w'/\Grew C w w':=
 (skip_no C i s w h hc).mono fun e w' ⟨h1,n,h2⟩=>by subst h2;exact⟨h1,h.drewN n,Grew.drewN w n⟩
theorem zaY(C:Ctx)(i:Nat)(w:World)(h:Rd C i w):Calls Tryz.prog 121 #[.pointer (some ⟨C.r,0,none⟩)] w fun x w'=>x= .returned (.bool (namedB C.l i))/\Rd C i w'/\Grew C w w':=
 (vL C i w h).mono fun e w' ⟨h1,n,h2⟩=>by subst h2;exact⟨h1,h.drewN n,Grew.drewN w n⟩
theorem named_yes(C:Ctx)(i:Nat)(w:World)(h:Rd C i w)(hc:namedB C.l i=true):Calls Tryz.prog 121 #[.pointer (some ⟨C.r,0,none⟩)] w fun x w'=>x= .returned (.bool true)/\Rd C i w'/\Grew C w w':=by
 have:=zaY C i w h
 rw[hc] at this
 exact this
theorem named_not(C:Ctx)(i:Nat)(w:World)(h:Rd C i w)(hc:namedB C.l i=false):Calls Tryz.prog 121 #[.pointer (some ⟨C.r,0,none⟩)] w fun x w'=>x= .returned (.bool false)/\Rd C i w'/\Grew C w w':=by
 have:=zaY C i w h
 rw[hc] at this
 exact this
theorem grew_alloc2{C:Ctx}(w:World)(o1 o2:Obj):Grew C w ((w.alloc o1).alloc o2):=grown_trans (World.grownBy_alloc _ _ _) (World.grownBy_alloc _ _ _)
theorem post_leaf0{C:Ctx}{w w1:World}{r:Res (List Tr)}{j:Nat}(n:Nd)(hr:r= .ok [.mk n []] j)(hR:Rd C j w1)(hG:Grew C w w1)(b:Option Addr)(cap:Nat):
 zG C w r (isTree C w) (.returned (.pointer (some ⟨w1.heap.size+1,0,none⟩))) ((w1.alloc (.cells #[.int .i64 n.depth, .int .i64 n.kind, .string n.name, .int .i64 n.num, .int .i64 n.op, .int .i64 n.at_] 50)).alloc (.cells #[.int .i64 n.depth, .int .i64 n.kind, .string n.name, .int .i64 n.num, .int .i64 n.op, .int .i64 n.at_, .slice b 0 cap] 148)):=
 ⟨_,j,hr,⟨_,_,rfl,rfl,tr_leaf n (wE _ w1 b cap) hR.lt hG.size⟩,(hR.alloc _).alloc _,grown_trans hG (grew_alloc2 _ _ _)⟩
theorem post_leaf1{C:Ctx}{w w1:World}{r:Res (List Tr)}{j p:Nat}{t:Tr}(n:Nd)(hr:r= .ok [.mk n [t]] j)(hT:TrAt (Old C w) w1 p t)(hR:Rd C j w1)(hG:Grew C w w1):
 zG C w r (isTree C w) (.returned (.pointer (some ⟨w1.heap.size+1+1,0,none⟩))) (((w1.alloc (.cells #[.pointer (some ⟨p,0,none⟩)] 89)).alloc (.cells #[.int .i64 n.depth, .int .i64 n.kind, .string n.name, .int .i64 n.num, .int .i64 n.op, .int .i64 n.at_] 50)).alloc (.cells #[.int .i64 n.depth, .int .i64 n.kind, .string n.name, .int .i64 n.num, .int .i64 n.op, .int .i64 n.at_, .slice (some ⟨w1.heap.size,0,none⟩) 1 1] 148)):=by
 have h:=tr_leaf n (zkc hT hR.lt hG.size) (by have:=hR.lt;simp;omega) (by have:=hG.size;simp;omega)
 have hsz:(w1.alloc (.cells #[.pointer (some ⟨p,0,none⟩)] 89)).heap.size+1=w1.heap.size+1+1:=by simp
 rw[hsz] at h
 exact⟨_,j,hr,⟨_,_,rfl,rfl,h⟩,((hR.alloc _).alloc _).alloc _,grown_trans hG (uy _ _ _ _)⟩
theorem want_any(C:Ctx)(i:Nat)(s:ByteArray)(w:World)(h:Rd C i w)(hc:comesB C.l i s=true):Calls Tryz.prog 82 #[.pointer (some ⟨C.r,0,none⟩), .slice (some ⟨w.heap.size,0,none⟩) 1 1] (w.alloc (.cells #[.string s] 9)) fun x w'=>x= .returned (.tuple #[])/\Rd C (i+1) w'/\Grew C w w':=
 (zgn C i s w.heap.size _ (h.alloc _) (by simp[go_sem]) hc).mono fun e w' ⟨h1,h2,h3⟩=>⟨h1,h2,grown_trans (World.grownBy_alloc _ _ _) h3⟩
theorem want_not(C:Ctx)(i:Nat)(s:ByteArray)(w:World)(h:Rd C i w)(hc:comesB C.l i s=false):Calls Tryz.prog 82 #[.pointer (some ⟨C.r,0,none⟩), .slice (some ⟨w.heap.size,0,none⟩) 1 1] (w.alloc (.cells #[.string s] 9)) fun x w'=>∃ch,x= .panicked ch/\je C w (placeOf C.l C.e i) ch w':=
 (zid C i s w.heap.size _ (h.alloc _) (by simp[go_sem]) hc).mono fun e w' ⟨ch,h1,h2⟩=>⟨ch,h1,h2.later (World.grownBy_alloc _ _ _)⟩
theorem zc8(C:Ctx)(n:Nat)(ih:∀f,f<=n->Exprs C f)(i:Nat)(w:World)(r:Res (List Tr))(hr:rd C (n+1) .unary i=some r)(h:Rd C i w):Calls Tryz.prog 173 #[.pointer (some ⟨C.r,0,none⟩)] w (zG C w r (isTree C w)):=by
 have hU:=(ih n (Nat.le_refl _)).unary
 have hA:=(ih n (Nat.le_refl _)).atom
 have hlt:=h.lt
 clear ih
 simp only[rd] at hr
 by_cases c1:comesB C.l i ⟨#[45]⟩=true
 ·rw[if_pos c1] at hr
  cases hx:rd C n .unary (i+1) with
  |none=>rw[hx] at hr;cases hr
  |some x=>
   rw[hx] at hr
   have hS:=fun W a=>hU (i+1) W x hx a
   clear hx hU hA
   cases x with
   |no p=>
    obtain rfl:Res.no p=r:=by simpa only [andThen,Option.some.injEq] using hr
    have hS:=fun W a=>zE (hS W a)
    clear hr
    go_enter Tryz.func173,Tryz.ntmps173
    go_wp2_with (first|(go_at_call 78;with_reducible refine(yC C i _ (by assumption)).mono ?_;rintro e w1 ⟨rfl,hR1,hG1⟩)|(go_at_call 79;with_reducible refine(skip_yes C i ⟨#[45]⟩ _ (by assumption) c1).mono ?_;rintro e w2 ⟨rfl,hR2,hG2⟩)|(go_at_call 173;with_reducible refine(hS _ (by assumption)).mono ?_;rintro e w3 ⟨ch,rfl,hF⟩))
    exact⟨rfl,_,rfl,hF.later (grown_trans hG1 hG2)⟩
   |ok ts j=>
    have HE:=Lib.hid (Option.some.inj hr)
    have hS:=fun W a=>zz (hS W a)
    clear hr
    go_enter Tryz.func173,Tryz.ntmps173
    go_wp2_with (first|(go_at_call 78;with_reducible refine(yC C i _ (by assumption)).mono ?_;rintro e w1 ⟨rfl,hR1,hG1⟩)|(go_at_call 79;with_reducible refine(skip_yes C i ⟨#[45]⟩ _ (by assumption) c1).mono ?_;rintro e w2 ⟨rfl,hR2,hG2⟩)|(go_at_call 173;with_reducible refine(hS _ (by assumption)).mono ?_;rintro e w3 ⟨t3,p3,ht3,rfl,hT3,hR3,hG3⟩)|(go_at_call 80;with_reducible refine(leaf_any ⟨0,14,⟨#[]⟩,0,1,placeOf C.l C.e i⟩ _ _ _ _).mono ?_;rintro e wl ⟨rfl,rfl⟩))
    subst ht3
    go_ret
    exact post_leaf1 ⟨0,14,⟨#[]⟩,0,1,placeOf C.l C.e i⟩ HE.out.symm (hT3.mono (old_le (grown_trans hG1 hG2))) hR3 (grown_trans hG1 (grown_trans hG2 hG3))
 ·rw[if_neg c1] at hr
  have d1:comesB C.l i ⟨#[45]⟩=false:=by simpa using c1
  clear c1
  by_cases c2:comesB C.l i ⟨#[33]⟩=true
  ·rw[if_pos c2] at hr
   cases hx:rd C n .unary (i+1) with
   |none=>rw[hx] at hr;cases hr
   |some x=>
    rw[hx] at hr
    have hS:=fun W a=>hU (i+1) W x hx a
    clear hx hU hA
    cases x with
    |no p=>
     obtain rfl:Res.no p=r:=by simpa only [andThen,Option.some.injEq] using hr
     have hS:=fun W a=>zE (hS W a)
     clear hr
     go_enter Tryz.func173,Tryz.ntmps173
     go_wp2_with (first|(go_at_call 78;with_reducible refine(yC C i _ (by assumption)).mono ?_;rintro e w1 ⟨rfl,hR1,hG1⟩)|(go_at_call 79;with_reducible refine(skip_not C i ⟨#[45]⟩ _ (by assumption) d1).mono ?_;rintro e w2 ⟨rfl,hR2,hG2⟩)|(go_at_call 79;with_reducible refine(skip_yes C i ⟨#[33]⟩ _ (by assumption) c2).mono ?_;rintro e w3 ⟨rfl,hR3,hG3⟩)|(go_at_call 173;with_reducible refine(hS _ (by assumption)).mono ?_;rintro e w4 ⟨ch,rfl,hF⟩))
     exact⟨rfl,_,rfl,hF.later (grown_trans hG1 (grown_trans hG2 hG3))⟩
    |ok ts j=>
     have HE:=Lib.hid (Option.some.inj hr)
     have hS:=fun W a=>zz (hS W a)
     clear hr
     go_enter Tryz.func173,Tryz.ntmps173
     go_wp2_with (first|(go_at_call 78;with_reducible refine(yC C i _ (by assumption)).mono ?_;rintro e w1 ⟨rfl,hR1,hG1⟩)|(go_at_call 79;with_reducible refine(skip_not C i ⟨#[45]⟩ _ (by assumption) d1).mono ?_;rintro e w2 ⟨rfl,hR2,hG2⟩)|(go_at_call 79;with_reducible refine(skip_yes C i ⟨#[33]⟩ _ (by assumption) c2).mono ?_;rintro e w3 ⟨rfl,hR3,hG3⟩)|(go_at_call 173;with_reducible refine(hS _ (by assumption)).mono ?_;rintro e w4 ⟨t4,p4,ht4,rfl,hT4,hR4,hG4⟩)|(go_at_call 80;with_reducible refine(leaf_any ⟨0,14,⟨#[]⟩,0,2,placeOf C.l C.e i⟩ _ _ _ _).mono ?_;rintro e wl ⟨rfl,rfl⟩))
     subst ht4
     go_ret
     exact post_leaf1 ⟨0,14,⟨#[]⟩,0,2,placeOf C.l C.e i⟩ HE.out.symm (hT4.mono (old_le (grown_trans hG1 (grown_trans hG2 hG3)))) hR4 (grown_trans hG1 (grown_trans hG2 (grown_trans hG3 hG4)))
  ·rw[if_neg c2] at hr
   have d2:comesB C.l i ⟨#[33]⟩=false:=by simpa using c2
   clear c2
   have hS:=fun W a=>hA i W r hr a
   clear hU hA hr
   cases r with
   |no p=>
    have hS:=fun W a=>zE (hS W a)
    go_enter Tryz.func173,Tryz.ntmps173
    go_wp2_with (first|(go_at_call 78;with_reducible refine(yC C i _ (by assumption)).mono ?_;rintro e w1 ⟨rfl,hR1,hG1⟩)|(go_at_call 79;with_reducible refine(skip_not C i ⟨#[45]⟩ _ (by assumption) d1).mono ?_;rintro e w2 ⟨rfl,hR2,hG2⟩)|(go_at_call 79;with_reducible refine(skip_not C i ⟨#[33]⟩ _ (by assumption) d2).mono ?_;rintro e w3 ⟨rfl,hR3,hG3⟩)|(go_at_call 181;with_reducible refine(hS _ (by assumption)).mono ?_;rintro e w4 ⟨ch,rfl,hF⟩))
    exact⟨rfl,_,rfl,hF.later (grown_trans hG1 (grown_trans hG2 hG3))⟩
   |ok ts j=>
    have hS:=fun W a=>zz (hS W a)
    go_enter Tryz.func173,Tryz.ntmps173
    go_wp2_with (first|(go_at_call 78;with_reducible refine(yC C i _ (by assumption)).mono ?_;rintro e w1 ⟨rfl,hR1,hG1⟩)|(go_at_call 79;with_reducible refine(skip_not C i ⟨#[45]⟩ _ (by assumption) d1).mono ?_;rintro e w2 ⟨rfl,hR2,hG2⟩)|(go_at_call 79;with_reducible refine(skip_not C i ⟨#[33]⟩ _ (by assumption) d2).mono ?_;rintro e w3 ⟨rfl,hR3,hG3⟩)|(go_at_call 181;with_reducible refine(hS _ (by assumption)).mono ?_;rintro e w4 ⟨t4,p4,ht4,rfl,hT4,hR4,hG4⟩))
    subst ht4
    go_ret
    exact post_tree rfl (hT4.mono (old_le (grown_trans hG1 (grown_trans hG2 hG3)))) hR4 (grown_trans hG1 (grown_trans hG2 (grown_trans hG3 hG4))) 0
end Go.Proofs.YtonmcakdofbjiaaGreatDoor
