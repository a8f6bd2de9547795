/- A part. -/
import Derived.Test.YtonmcakdofbjiaaGreatDoorZ14
import Derived.Deep.LoopGhost
import Derived.OwnWalk
import Derived.LaidHandle
import Derived.Laws.StructEq
set_option linter.all false
set_option maxRecDepth 100000
set_option maxHeartbeats 8000000
namespace Go.Proofs.YtonmcakdofbjiaaGreatDoor
open Go.RowKit
abbrev Grew(C:Ctx)(w w':World):Prop:=w.grownBy w' (some C.r)
def qT(C:Ctx)(w:World)(p:Int)(ch:List PanicEntry)(w':World):Prop:=
 ∃q,ch=[{v:= .iface 71 (.pointer (some ⟨q,0,none⟩)),recovered:=false}]/\w.heap.size<=q/\w'.heap[q]? =some (.cells #[.int .i64 30, .int .i64 p, .iface C.te C.pe] 73 (0,0))/\Grew C w w'
inductive Res (α:Type) where
 |ok (a:α) (j:Nat)
 |no (p:Int)
def zH{α:Type}(C:Ctx)(w:World)(r:Res α)(val:α->Value->World->Prop):Ending->World->Prop
 | .returned v,w'=>∃a j,r= .ok a j/\val a v w'/\Rd C j w'/\Grew C w w'
 | .panicked ch,w'=>∃p,r= .no p/\qT C w p ch w'
 | .outgrown,_=>False
theorem Rd.lt{C:Ctx}{i:Nat}{w:World}(h:Rd C i w):C.r<w.heap.size:=World.block_lt_of_cell? w ⟨C.r,1,none⟩ h.ci
theorem Rd.lt0{C:Ctx}{i:Nat}{w:World}(h:Rd C i w):0<w.heap.size:=World.block_lt_of_cell? w ⟨0,0,none⟩ h.err
theorem ToksAt.of{l:List Item}{g:Nat}{w w':World}(h:ToksAt l g w)(hk:l≠[]->∀o,w'.cell? ⟨g,o,none⟩=w.cell? ⟨g,o,none⟩):ToksAt l g w':=by
 have ne:∀{j:Nat} {t:Item},l[j]? =some t->l≠[]:=by rintro j t hj rfl;simp at hj
 exact⟨fun j t hj=>(hk (ne hj) _).trans (h.kind j t hj),fun j t hj=>(hk (ne hj) _).trans (h.text j t hj),fun j t hj=>(hk (ne hj) _).trans (h.num j t hj),fun j t hj=>(hk (ne hj) _).trans (h.pos j t hj)⟩
theorem Rd.glt{C:Ctx}{i:Nat}{w:World}{g:Nat}(h:ToksAt C.l g w)(hne:C.l≠[]):g<w.heap.size:=by
 cases hl:C.l with
 |nil=>exact absurd hl hne
 |cons t l=>exact World.block_lt_of_cell? w ⟨g,0*4,none⟩ (h.kind 0 t (by rw[hl];rfl))
theorem Rd.kept{C:Ctx}{i:Nat}{w w':World}(h:Rd C i w)(hk:∀k,k<w.heap.size->w'.heap[k]? =w.heap[k]?):Rd C i w':=by
 have hr:=h.lt
 have h0:=h.lt0
 obtain⟨⟨b,cap,g,a0,hb,hcap,ht,hg⟩,a1,a2,af,hle,hlen,he,hp,hk0⟩:=h
 have c:∀n o,n<w.heap.size->w'.cell? ⟨n,o,none⟩=w.cell? ⟨n,o,none⟩:=fun n o hn=>World.cell?_of_block (a:=⟨n,o,none⟩) (hk n hn)
 have f:∀n o,n<w.heap.size->w'.frozen? ⟨n,o,none⟩=w.frozen? ⟨n,o,none⟩:=fun n o hn=>World.frozen?_of_block (a:=⟨n,o,none⟩) (hk n hn)
 exact⟨⟨b,cap,g,(c _ _ hr).trans a0,hb,hcap,ht.of fun hne o=>c _ _ (Rd.glt (i:=i) ht hne),hg⟩,(c _ _ hr).trans a1,(c _ _ hr).trans a2,(f _ _ hr).trans af,hle,hlen,(c _ _ h0).trans he,hp,fun b n cap hb=>hk0 b n cap ((c _ _ hr).symm.trans hb)⟩
theorem Rd.below{C:Ctx}{i:Nat}{w w':World}(h:Rd C i w)(hb:Below w.heap.size w w'):Rd C i w':=h.kept hb.block
theorem Rd.alloc{C:Ctx}{i:Nat}{w:World}(h:Rd C i w)(o:Obj):Rd C i (w.alloc o):=h.kept fun k hk=>(World.grownBy_alloc w o none).block k hk (by simp)
theorem Rd.gtok{C:Ctx}{i:Nat}{w:World}(h:Rd C i w)(hne:C.l≠[]):C.g<w.heap.size:=by
 obtain⟨b,cap,g,a0,hb,hcap,ht,hg⟩:=h.list
 have h1:=hb hne
 have h2:=h.tok _ _ _ a0 hne
 rw[h1] at h2
 have:g=C.g:=by simpa using h2
 rw[<-this]
 exact Rd.glt (i:=i) ht hne
theorem Rd.set{C:Ctx}{i i0:Nat}{w0 w:World}(h0:Rd C i0 w0)(h:Rd C i w){N:Nat}(hN:w0.heap.size<=N)(o:Nat)(v:Value):Rd C i (w.setCell ⟨N,o,none⟩ v):=by
 have k1:=h0.lt
 have k2:=h0.lt0
 have k3:=h0.gtok
 have hg':∀b cap g,w.cell? ⟨C.r,0,none⟩=some (.slice b C.l.length cap)->(C.l≠[]->b=some ⟨g,0,none⟩)->C.l≠[]->g≠N:=by
  intro b cap g h1 h2 hne
  have h3:=h.tok _ _ _ h1 hne
  rw[h2 hne] at h3
  have:g=C.g:=by simpa using h3
  have:=k3 hne
  omega
 have hs:=zo w N o v
 have c:∀n x,n≠N->(w.setCell ⟨N,o,none⟩ v).cell? ⟨n,x,none⟩=w.cell? ⟨n,x,none⟩:=fun n x hn=>by
  unfold World.cell?
  rw[show(⟨n,x,none⟩:Addr).block=n from rfl,Below.heap_setCell _ _ _ _ (by simpa using hn)]
 have f:∀n x,n≠N->(w.setCell ⟨N,o,none⟩ v).frozen? ⟨n,x,none⟩=w.frozen? ⟨n,x,none⟩:=fun n x hn=>by
  unfold World.frozen?
  rw[show(⟨n,x,none⟩:Addr).block=n from rfl,Below.heap_setCell _ _ _ _ (by simpa using hn)]
 obtain⟨⟨b,cap,g,a0,hb,hcap,ht,hg⟩,a1,a2,af,hle,hlen,he,hp,hk0⟩:=h
 exact⟨⟨b,cap,g,(c _ _ (by omega)).trans a0,hb,hcap,ht.of fun hne x=>c _ _ (hg' b cap g a0 hb hne),hg⟩,(c _ _ (by omega)).trans a1,(c _ _ (by omega)).trans a2,(f _ _ (by omega)).trans af,hle,hlen,(c _ _ (by omega)).trans he,hp,fun b n cap hb=>hk0 b n cap ((c _ _ (by omega)).symm.trans hb)⟩
theorem Rd.next{C:Ctx}{i:Nat}{w:World}(h:Rd C i w){j:Nat}(hj:j<=C.l.length):Rd C j (w.setCell ⟨C.r,1,none⟩ (.int .i64 j)):=by
 obtain⟨⟨b,cap,g,a0,hb,hcap,ht,hg⟩,a1,a2,af,hle,hlen,he,hp,hk0⟩:=h
 have hk:=zo w C.r 1 (.int .i64 j)
 have c:∀n o,n≠C.r->(w.setCell ⟨C.r,1,none⟩ (.int .i64 j)).cell? ⟨n,o,none⟩=w.cell? ⟨n,o,none⟩:=fun n o hn=>by
  simp[go_sem,hn]
 refine⟨⟨b,cap,g,by simp[go_sem,a0],hb,hcap,ht.of fun hne o=>c _ _ (hg hne),hg⟩,by simp[go_sem,a1],by simp[go_sem,a2],by simp[go_sem,af],hj,hlen,(c _ _ (by omega)).trans he,hp,fun b n cap hb=>hk0 b n cap (by simpa [go_sem,a0] using hb)⟩
theorem comes_lt{l:List Item}{i:Nat}{s:ByteArray}(h:comesB l i s=true):i<l.length:=by
 unfold comesB at h
 split at h
 ·rename_i t ht
  exact(List.getElem?_eq_some_iff.1 ht).1
 ·cases h
theorem named_lt{l:List Item}{i:Nat}(h:namedB l i=true):i<l.length:=by
 unfold namedB at h
 split at h
 ·rename_i t ht
  exact(List.getElem?_eq_some_iff.1 ht).1
 ·cases h
theorem grew_next{C:Ctx}(w:World)(n:Nat)(v:Value):Grew C w ((w.drewN n).setCell ⟨C.r,1,none⟩ v):=by
 have h:=zo (w.drewN n) C.r 1 v
 exact⟨h.os,h.tape,h.output,h.size,h.block⟩
theorem zdR{C:Ctx}(w:World)(n m:Nat)(v:Value):Grew C w (((w.drewN n).setCell ⟨C.r,1,none⟩ v).drewN m):=by
 have h:=zo (w.drewN n) C.r 1 v
 exact⟨h.os,h.tape,h.output,h.size,h.block⟩
theorem skip_yes(C:Ctx)(i:Nat)(s:ByteArray)(w:World)(h:Rd C i w)(hc:comesB C.l i s=true):Calls Tryz.prog 79 #[.pointer (some ⟨C.r,0,none⟩), .string s] w fun x w'=>x= .returned (.bool true)/\Rd C (i+1) w'/\Grew C w w':=by
 have hlt:=comes_lt hc
 have hcom:=zam C i s w h
 rw[hc] at hcom
 have hN:=fun n=>(h.drewN n).next (j:=i+1) hlt
 have HN:=Lib.hid hN
 have q1:=h.ci
 have qf:=h.froz
 have hl:=h.len
 clear hc hN h
 go_enter Tryz.func79,Tryz.ntmps79
 go_wp2_with (go_at_call 120;refine(hcom).mono ?_;rintro e w' ⟨rfl,n,rfl⟩)
 go_ret
 rename_i n
 exact⟨rfl,HN.out n,grew_next w n _⟩
theorem skip_no(C:Ctx)(i:Nat)(s:ByteArray)(w:World)(h:Rd C i w)(hc:comesB C.l i s=false):Calls Tryz.prog 79 #[.pointer (some ⟨C.r,0,none⟩), .string s] w fun x w'=>x= .returned (.bool false)/\∃n,w'=w.drewN n:=by
 have hcom:=zam C i s w h
 rw[hc] at hcom
 clear hc h
 go_enter Tryz.func79,Tryz.ntmps79
 go_wp2_with (go_at_call 120;refine(hcom).mono ?_;rintro e w' ⟨rfl,n,rfl⟩)
 go_ret
 exact⟨rfl,_,rfl⟩
theorem refused_any(k p:Int)(te:TypeId)(pe:Value)(w:World)(h:w.cell? ⟨0,0,none⟩=some (.iface te pe)):Calls Tryz.prog 41 #[.int .i64 k, .int .i64 p] w fun x w'=>x= .returned (.pointer (some ⟨w.heap.size,0,none⟩))/\w'=w.alloc (.cells #[.int .i64 k, .int .i64 p, .iface te pe] 73):=by
 go_enter Tryz.func41,Tryz.ntmps41
 go_wp2
 go_ret
 exact⟨rfl,rfl⟩
theorem kZ(C:Ctx)(i:Nat)(w:World)(h:Rd C i w):Calls Tryz.prog 85 #[.pointer (some ⟨C.r,0,none⟩)] w fun x w'=>∃ch,x= .panicked ch/\qT C w (placeOf C.l C.e i) ch w':=by
 have hat:=zft C i w h
 have he:=h.err
 have hr:=h.lt
 clear h
 go_enter Tryz.func85,Tryz.ntmps85
 go_wp2_with (first|(go_at_call 78;refine(hat).mono ?_;rintro e w' ⟨rfl,n,rfl⟩)|(go_at_call 41;refine(refused_any _ _ C.te C.pe _ (by first|exact he|simpa using he)).mono ?_;rintro e w' ⟨rfl,rfl⟩))
 refine⟨rfl,_,rfl,w.heap.size,rfl,Nat.le_refl _,heap_alloc_new (w.drewN n) _,?_⟩
 have h:=World.grownBy_alloc (w.drewN n) (Obj.cells #[Value.int IntKind.i64 30,Value.int IntKind.i64 (placeOf C.l C.e i),Value.iface C.te C.pe] 73) (some C.r)
 exact⟨h.os,h.tape,h.output,h.size,h.block⟩
theorem qT.later{C:Ctx}{w w1 w':World}{p:Int}{ch:List PanicEntry}(hg:Grew C w w1)(h:qT C w1 p ch w'):qT C w p ch w':=by
 obtain⟨q,h1,h2,h3,h4⟩:=h
 exact⟨q,h1,Nat.le_trans hg.size h2,h3,grown_trans hg h4⟩
theorem Grew.drewN{C:Ctx}(w:World)(n:Nat):Grew C w (w.drewN n):=⟨rfl,rfl,rfl,Nat.le_refl _,fun _ _ _=>rfl⟩
def textAt(l:List Item)(i:Nat):ByteArray:=match l[i]? with
 |some t=>t.text
 |none=>⟨#[]⟩
def numbB(l:List Item)(i:Nat):Bool:=match l[i]? with
 |some t=>decide (t.kind=1)
 |none=>false
def numAtT(l:List Item)(i:Nat):Int:=match l[i]? with
 |some t=>t.num
 |none=>0
theorem numb_lt{l:List Item}{i:Nat}(h:numbB l i=true):i<l.length:=by
 unfold numbB at h
 split at h
 ·rename_i t ht
  exact(List.getElem?_eq_some_iff.1 ht).1
 ·cases h
theorem Rd.cells{C:Ctx}{i:Nat}{w:World}(h:Rd C i w)(hi:i<C.l.length):∃g cap,w.cell? ⟨C.r,0,none⟩=some (.slice (some ⟨g,0,none⟩) C.l.length cap)/\C.l.length<=cap/\g≠C.r/\
 (∀t,C.l[i]? =some t->w.cell? ⟨g,i*4,none⟩=some (.int .i64 t.kind)/\w.cell? ⟨g,i*4+1,none⟩=some (.string t.text)/\w.cell? ⟨g,i*4+2,none⟩=some (.int .i64 t.num)/\w.cell? ⟨g,i*4+3,none⟩=some (.int .i64 t.pos)):=by
 obtain⟨⟨b,cap,g,h0,hb,hcap,ht,hg⟩,_⟩:=h
 have hne:C.l≠[]:=by rintro e;rw[e] at hi;simp at hi
 obtain rfl:=hb hne
 exact⟨g,cap,h0,hcap,hg hne,fun t hx=>⟨ht.kind i t hx,ht.text i t hx,ht.num i t hx,ht.pos i t hx⟩⟩
theorem name_yes(C:Ctx)(i:Nat)(w:World)(h:Rd C i w)(hc:namedB C.l i=true):Calls Tryz.prog 81 #[.pointer (some ⟨C.r,0,none⟩)] w fun x w'=>x= .returned (.string (textAt C.l i))/\Rd C (i+1) w'/\Grew C w w':=by
 have hlt:=named_lt hc
 have hcom:=vG C i w h
 rw[hc] at hcom
 have hN:=fun n=>(h.drewN n).next (j:=i+1) hlt
 have HN:=Lib.hid hN
 obtain⟨g,cap,q0,hcap,hg,hx⟩:=h.cells hlt
 obtain⟨t,ht⟩:∃t,C.l[i]? =some t:=⟨_,List.getElem?_eq_getElem hlt⟩
 obtain⟨x0,x1,x2,x3⟩:=hx t ht
 have q1:=h.ci
 have qf:=h.froz
 have hl:=h.len
 have e:textAt C.l i=t.text:=by unfold textAt;rw[ht]
 rw[e]
 clear hc hN h hx ht e x0 x2 x3
 go_enter Tryz.func81,Tryz.ntmps81
 go_wp2_with (go_at_call 121;refine(hcom).mono ?_;rintro e w' ⟨rfl,n,rfl⟩)
 have hg':¬C.r=g:=fun e=>hg e.symm
 go_quiet (fail)
 go_wp2
 go_ret
 have g1:=grew_next (C:=C) w n (.int .i64 (↑i+1))
 exact⟨rfl,(HN.out n).drewN _,⟨g1.os,g1.tape,g1.output,g1.size,g1.block⟩⟩
theorem name_no(C:Ctx)(i:Nat)(w:World)(h:Rd C i w)(hc:namedB C.l i=false):Calls Tryz.prog 81 #[.pointer (some ⟨C.r,0,none⟩)] w fun x w'=>∃ch,x= .panicked ch/\qT C w (placeOf C.l C.e i) ch w':=by
 have hcom:=vG C i w h
 rw[hc] at hcom
 have hF:=fun n=>kZ C i _ (h.drewN n)
 clear hc h
 go_enter Tryz.func81,Tryz.ntmps81
 go_wp2_with (first|(go_at_call 121;refine(hcom).mono ?_;rintro e w' ⟨rfl,n,rfl⟩)|(go_at_call 85;refine(hF _).mono ?_;rintro e w' ⟨ch,rfl,hF2⟩))
 exact⟨rfl,_,rfl,hF2.later (Grew.drewN w _)⟩
theorem number_yes(C:Ctx)(i:Nat)(w:World)(h:Rd C i w)(hc:numbB C.l i=true):Calls Tryz.prog 83 #[.pointer (some ⟨C.r,0,none⟩)] w fun x w'=>x= .returned (.int .i64 (numAtT C.l i))/\Rd C (i+1) w'/\Grew C w w':=by
 have hlt:=numb_lt hc
 have hN:=fun n=>(h.drewN n).next (j:=i+1) hlt
 have HN:=Lib.hid hN
 obtain⟨g,cap,q0,hcap,hg,hx⟩:=h.cells hlt
 obtain⟨t,ht⟩:∃t,C.l[i]? =some t:=⟨_,List.getElem?_eq_getElem hlt⟩
 obtain⟨x0,x1,x2,x3⟩:=hx t ht
 have q1:=h.ci
 have qf:=h.froz
 have hl:=h.len
 have e:numAtT C.l i=t.num:=by unfold numAtT;rw[ht]
 have hk:t.kind=1:=by unfold numbB at hc;rw[ht] at hc;simpa using hc
 rw[hk] at x0
 rw[e]
 have hdd:decide ((C.l.length:Int)<=(i:Int))=false:=by simp;omega
 clear hc hN h hx ht e x1 x3 hk
 go_enter Tryz.func83,Tryz.ntmps83
 go_wp2_with fail
 go_quiet (fail)
 go_wp2_with fail
 have hg':¬C.r=g:=fun e=>hg e.symm
 go_quiet (fail)
 go_wp2
 go_ret
 exact⟨rfl,(HN.out _).drewN _,zdR _ _ _ _⟩
theorem number_no(C:Ctx)(i:Nat)(w:World)(h:Rd C i w)(hc:numbB C.l i=false):Calls Tryz.prog 83 #[.pointer (some ⟨C.r,0,none⟩)] w fun x w'=>∃ch,x= .panicked ch/\qT C w (placeOf C.l C.e i) ch w':=by
 have hF:=fun n=>kZ C i _ (h.drewN n)
 by_cases hlt:i<C.l.length
 ·obtain⟨g,cap,q0,hcap,hg,hx⟩:=h.cells hlt
  obtain⟨t,ht⟩:∃t,C.l[i]? =some t:=⟨_,List.getElem?_eq_getElem hlt⟩
  obtain⟨x0,x1,x2,x3⟩:=hx t ht
  have q1:=h.ci
  have hl:=h.len
  have hk:t.kind≠1:=by unfold numbB at hc;rw[ht] at hc;simpa using hc
  have hk1:(t.kind==1)=false:=by simp[hk]
  have hk2:(t.kind !=1)=true:=by simp[hk]
  have hdd:decide ((C.l.length:Int)<=(i:Int))=false:=by simp;omega
  clear hc h hx ht x1 x3 hk
  go_enter Tryz.func83,Tryz.ntmps83
  go_wp2_with fail
  go_quiet (fail)
  go_wp2_with (go_at_call 85;refine(hF _).mono ?_;rintro e w' ⟨ch,rfl,hF2⟩)
  exact⟨rfl,_,rfl,hF2.later (Grew.drewN w _)⟩
 ·obtain⟨⟨b,cap,g,q0,hb,hcap,ht,hg⟩,q1,q2,qf,hle,hlen,herr,hpos,htok⟩:=h
  clear htok
  have hdd:decide ((C.l.length:Int)<=(i:Int))=true:=by simp;omega
  clear hb ht hg
  go_enter Tryz.func83,Tryz.ntmps83
  go_wp2_with fail
  go_quiet (fail)
  go_wp2_with (go_at_call 85;refine(hF _).mono ?_;rintro e w' ⟨ch,rfl,hF2⟩)
  exact⟨rfl,_,rfl,hF2.later (Grew.drewN w _)⟩
structure Nd where
 depth:Int
 kind:Int
 name:ByteArray
 num:Int
 op:Int
 at_:Int
def Nd.cells(n:Nd):List Value:=[.int .i64 n.depth, .int .i64 n.kind, .string n.name, .int .i64 n.num, .int .i64 n.op, .int .i64 n.at_]
theorem leaf_any(n:Nd)(b:Option Addr)(k cap:Nat)(w:World):Calls Tryz.prog 80 #[.agg #[.int .i64 n.depth, .int .i64 n.kind, .string n.name, .int .i64 n.num, .int .i64 n.op, .int .i64 n.at_], .slice b k cap] w fun x w'=>x= .returned (.pointer (some ⟨w.heap.size+1,0,none⟩))/\
 w'=(w.alloc (.cells #[.int .i64 n.depth, .int .i64 n.kind, .string n.name, .int .i64 n.num, .int .i64 n.op, .int .i64 n.at_] 50)).alloc (.cells #[.int .i64 n.depth, .int .i64 n.kind, .string n.name, .int .i64 n.num, .int .i64 n.op, .int .i64 n.at_, .slice b k cap] 148):=by
 go_enter Tryz.func80,Tryz.ntmps80
 go_wp2
 go_ret
 exact⟨rfl,rfl⟩
theorem zgg(C:Ctx)(i:Nat)(s:ByteArray)(p:Nat)(w:World)(h:Rd C i w)(hp:w.cell? ⟨p,0,none⟩=some (.string s))(hc:comesB C.l i s=true):Calls Tryz.prog 82 #[.pointer (some ⟨C.r,0,none⟩), .slice (some ⟨p,0,none⟩) 1 1] w fun x w'=>x= .returned (.tuple #[])/\Rd C (i+1) w'/\Grew C w w':=by
 have hS:=skip_yes C i s w h hc
 clear h hc
 go_enter Tryz.func82,Tryz.ntmps82
 go_wp2
 go_loopg [8] 2 (fun g x wr=>(x= .int .i64 0/\g=2/\wr=w)\/(x= .int .i64 1/\g=1/\Rd C (i+1) wr/\Grew C w wr))
 case atStart=>exact .inl ⟨rfl,rfl,rfl⟩
 case round=>
  rcases hrel with⟨rfl,rfl,rfl⟩|⟨rfl,rfl,hR,hG⟩
  ·go_wp2_with (go_at_call 79;refine(hS).mono ?_;rintro e w' ⟨rfl,hR,hG⟩)
   go_roundg 1
   case measure=>omega
   case rel=>exact .inr ⟨rfl,rfl,hR,hG⟩
  ·have HR:=Lib.hid hR
   have HG:=Lib.hid hG
   clear hR hG hS hp
   go_wp2
   exact⟨rfl, .tuple #[],by simp[results,Tryz.f82],rfl,HR.out,HG.out⟩
theorem zh0(C:Ctx)(i:Nat)(s:ByteArray)(p:Nat)(w:World)(h:Rd C i w)(hp:w.cell? ⟨p,0,none⟩=some (.string s))(hc:comesB C.l i s=false):Calls Tryz.prog 82 #[.pointer (some ⟨C.r,0,none⟩), .slice (some ⟨p,0,none⟩) 1 1] w fun x w'=>∃ch,x= .panicked ch/\qT C w (placeOf C.l C.e i) ch w':=by
 have hS:=skip_no C i s w h hc
 have hF:=fun n=>kZ C i _ (h.drewN n)
 clear h hc
 go_enter Tryz.func82,Tryz.ntmps82
 go_wp2
 go_loopg [8] 2 (fun g x wr=>x= .int .i64 0/\g=2/\wr=w)
 case atStart=>exact⟨rfl,rfl,rfl⟩
 case round=>
  obtain⟨rfl,rfl,rfl⟩:=hrel
  go_wp2_with (first|(go_at_call 79;refine(hS).mono ?_;rintro e w' ⟨rfl,n,rfl⟩)|(go_at_call 85;refine(hF _).mono ?_;rintro e w' ⟨ch,rfl,hF2⟩))
  exact⟨rfl,_,rfl,hF2.later (Grew.drewN _ _)⟩
def lastIx{α:Type}(p:α->Bool):List α->Option Nat
 |[]=>none
 |x::l=>match lastIx p l with
  |some i=>some (i+1)
  |none=>if p x then some 0 else none
theorem qw{α:Type}{p:α->Bool}:∀{l:List α},lastIx p l=none->∀(j:Nat) (x:α),l[j]? =some x->p x=false
 |[],_,j,x,h=>by simp at h
 |y::l,h,j,x,hx=>by
  unfold lastIx at h
  cases hl:lastIx p l with
  |some k=>rw[hl] at h;simp at h
  |none=>
   rw[hl] at h
   simp at h
   cases j with
   |zero=>simp at hx;subst hx;exact h
   |succ j=>exact qw hl j x (by simpa using hx)
theorem xq{α:Type}{p:α->Bool}:∀{l:List α} {i:Nat},lastIx p l=some i->(∃x,l[i]? =some x/\p x=true)/\∀(j:Nat) (x:α),i<j->l[j]? =some x->p x=false
 |[],i,h=>by simp[lastIx] at h
 |x::l,i,h=>by
  unfold lastIx at h
  cases hl:lastIx p l with
  |some k=>
   rw[hl] at h
   simp at h
   subst h
   obtain⟨⟨y,h1,h2⟩,h3⟩:=xq hl
   refine⟨⟨y,by simpa using h1,h2⟩,fun j z hj hz=>?_⟩
   cases j with
   |zero=>omega
   |succ j=>exact h3 j z (by omega) (by simpa using hz)
  |none=>
   rw[hl] at h
   simp at h
   obtain⟨hp,rfl⟩:=h
   have hn:=qw hl
   refine⟨⟨x,rfl,hp⟩,fun j z hj hz=>?_⟩
   cases j with
   |zero=>omega
   |succ j=>exact hn j z (by simpa using hz)
theorem lastIx_of{α:Type}{p:α->Bool}{l:List α}{i:Nat}{x:α}(h1:l[i]? =some x)(h2:p x=true)(h3:∀(j:Nat) (y:α),i<j->l[j]? =some y->p y=false):lastIx p l=some i:=by
 cases h:lastIx p l with
 |none=>rw[qw h i x h1] at h2;cases h2
 |some k=>
  obtain⟨⟨y,k1,k2⟩,k3⟩:=xq h
  rcases Nat.lt_trichotomy i k with h'|h'|h'
  ·rw[h3 k y h' k1] at k2;cases k2
  ·rw[h']
  ·rw[k3 i x h' h1] at h2;cases h2
theorem lastIx_of_none{α:Type}{p:α->Bool}{l:List α}(h:∀(j:Nat) (y:α),l[j]? =some y->p y=false):lastIx p l=none:=by
 cases hl:lastIx p l with
 |none=>rfl
 |some k=>
  obtain⟨⟨y,k1,k2⟩,_⟩:=xq hl
  rw[h k y k1] at k2;cases k2
theorem lastIx_lt{α:Type}{p:α->Bool}{l:List α}{i:Nat}(h:lastIx p l=some i):i<l.length:=by
 obtain⟨⟨x,h1,_⟩,_⟩:=xq h
 exact(List.getElem?_eq_some_iff.1 h1).1
def zZ(k:Int):Bool:=decide (10<=k)&&decide (k<=15)
def yt(k:Int):Bool:=decide (2<=k)&&decide (k<=8)
def okAt(s:ByteArray)(j:Nat):Bool:=if h:j<s.size then isLetter (s[j]).toNat || (decide (j≠0)&&isDigit (s[j]).toNat) else true
def nameableB(s:ByteArray):Bool:=(List.range s.size).all (okAt s)&&decide (0<s.size)&&decide (s.size<=16)&&!zd s
def fieldsB(n:Nd):Bool:=
 if n.kind=0\/n.kind=2\/n.kind=3\/n.kind=4\/n.kind=12\/n.kind=13 then nameableB n.name&&decide (n.num=0)&&decide (n.op=0)
 else if n.kind=1 then nameableB n.name&&decide (0<=n.num)&&decide (n.op=0)
 else if n.kind=10 then n.name.toList.isEmpty&&decide (0<=n.num)&&decide (n.op=0)
 else if n.kind=11 then n.name.toList.isEmpty&&(decide (n.num=0) || decide (n.num=1))&&decide (n.op=0)
 else if n.kind=14 then n.name.toList.isEmpty&&decide (n.num=0)&&(decide (n.op=1) || decide (n.op=2))
 else if n.kind=15 then n.name.toList.isEmpty&&decide (n.num=0)&&(decide (3<=n.op)&&decide (n.op<=15))
 else if n.kind=5\/n.kind=6\/n.kind=7\/n.kind=8\/n.kind=9 then n.name.toList.isEmpty&&decide (n.num=0)&&decide (n.op=0)
 else false
structure Hold where
 kind:Int
 depth:Int
 wants:List Int
 blocks:Int
def zw(k:Int):List Int:=
 if k=2\/k=5\/k=13\/k=14 then [0] else if k=3\/k=15 then [0,0] else if k=7\/k=8 then [0,1] else []
def xX(o:List Hold):Option Nat:=lastIx (fun h=>!h.wants.isEmpty) o
def heldIx(o:List Hold)(d:Int):Option Nat:=lastIx (fun h=>decide (h.depth=d)) o
def cutN{α:Type}(p:α->Bool)(l:List α):Nat:=match lastIx p l with
 |some i=>i+1
 |none=>0
theorem zcP{α:Type}{p:α->Bool}{l:List α}{k:Nat}(h1:k=0\/∃x,l[k-1]? =some x/\p x=true)(h2:∀(j:Nat) (y:α),k<=j->l[j]? =some y->p y=false):cutN p l=k:=by
 unfold cutN
 rcases h1 with rfl|⟨x,hx,hp⟩
 ·rw[lastIx_of_none fun j y hy=>h2 j y (Nat.zero_le _) hy]
 ·by_cases hk:k=0
  ·subst hk
   rw[h2 0 x (Nat.le_refl _) hx] at hp;cases hp
  ·rw[lastIx_of hx hp fun j y hj hy=>h2 j y (by omega) hy]
   show k-1+1=k
   omega
def popF(d:Int)(o:List Hold):List Hold:=o.take (cutN (fun h=>decide (h.depth<d)) o)
def takeF(o:List Hold)(heads:Bool)(n:Nd):Option (List Hold):=
 match xX o with
 |some w=>match o[w]? with
  |some h=>match h.wants with
   |x::rest=>if n.depth≠h.depth+1\/(x=0/\zZ n.kind=false)\/(x=1/\n.kind≠9) then none else some (o.set w {h with wants:=rest,blocks:=if x=1 then h.blocks+1 else h.blocks})
   |[]=>none
  |none=>none
 |none=>
  if n.kind=0\/n.kind=1 then (if n.depth≠1\/heads=false then none else some o)
  else if yt n.kind then
   if n.depth=1 then some o
   else match heldIx o (IntKind.wrap .i64 (n.depth-1)) with
    |some u=>match o[u]? with
     |some h=>if h.kind=9 then some o else none
     |none=>none
    |none=>none
  else if n.kind=9 then
   match heldIx o (IntKind.wrap .i64 (n.depth-1)) with
   |some u=>match o[u]? with
    |some h=>if h.kind=7/\h.blocks=1 then some (o.set u {h with blocks:=h.blocks+1}) else none
    |none=>none
   |none=>none
  else none
def xw(o:List Hold)(heads:Bool)(n:Nd):Option (List Hold×Bool):=
 if fieldsB n=false then none else
 match takeF o heads n with
 |none=>none
 |some o1=>some (popF n.depth o1++[⟨n.kind,n.depth,zw n.kind,0⟩],if n.kind=0\/n.kind=1 then heads else false)
def jT(o:List Hold)(heads:Bool)(i:Nat):List Nd->Int×Int
 |[]=>if (xX o).isSome then (33,i) else (0,0)
 |n::l=>match xw o heads n with
  |none=>(33,i)
  |some (o',h')=>if 24<n.depth then (31,i) else jT o' h' (i+1) l
def jq(l:List Nd):Int×Int:=if 300<l.length then (32,300) else jT [] true 0 l
structure Opn where
 depth:Int
 kind:Int
 has:Int
def rwants(k:Int):Int:=if k=2\/k=5\/k=13\/k=14 then 1 else if k=3\/k=7\/k=8\/k=15 then 2 else 0
def xd(o:Opn)(k:Int):Bool:=
 if o.kind=9 then yt k
 else if o.kind=7 then (decide (o.has=0)&&zZ k) || ((decide (o.has=1) || decide (o.has=2))&&decide (k=9))
 else if o.kind=8 then (decide (o.has=0)&&zZ k) || (decide (o.has=1)&&decide (k=9))
 else decide (o.has<rwants o.kind)&&zZ k
def lacks(t:Opn):Bool:=decide (t.has<rwants t.kind)
def rcut(d:Int)(st:List Opn):Nat:=cutN (fun t=>decide (t.depth<d)) st
def gu(st:List Opn)(begun:Bool)(n:Nd):Option (List Opn×Bool):=
 if (st.drop (rcut n.depth st)).any lacks=true then none
 else if n.depth≠(rcut n.depth st:Int)+1\/fieldsB n=false then none
 else match rcut n.depth st with
  |0=>
   if ((n.kind=0\/n.kind=1)/\begun=true)\/(¬(n.kind=0\/n.kind=1)/\yt n.kind=false) then none
   else some ([],begun || !(decide (n.kind=0\/n.kind=1)))
  |i+1=>match st[i]? with
   |none=>none
   |some t=>if xd t n.kind=false then none else some (st.take i++[{t with has:=t.has+1}],begun)
def kS(st:List Opn)(n:Nd):List Opn:=if 0<rwants n.kind\/n.kind=9 then st++[⟨n.depth,n.kind,0⟩] else st
def zcH(st:List Opn)(begun:Bool)(i:Nat):List Nd->Int×Int
 |[]=>if st.any lacks=true then (33,i) else (0,0)
 |n::l=>match gu st begun n with
  |none=>(33,i)
  |some (st',b')=>if 24<n.depth then (31,i) else zcH (kS st' n) b' (i+1) l
def zkz(l:List Nd):Int×Int:=if 300<l.length then (32,300) else zcH [] false 0 l
def cont(k:Int):Bool:=decide (0<rwants k) || decide (k=9)
inductive St:Hold->Int->Prop
 |one0 (h:Hold) (hk:h.kind=2\/h.kind=5\/h.kind=13\/h.kind=14) (hw:h.wants=[0]):St h 0
 |one1 (h:Hold) (hk:h.kind=2\/h.kind=5\/h.kind=13\/h.kind=14) (hw:h.wants=[]):St h 1
 |two0 (h:Hold) (hk:h.kind=3\/h.kind=15) (hw:h.wants=[0,0]):St h 0
 |two1 (h:Hold) (hk:h.kind=3\/h.kind=15) (hw:h.wants=[0]):St h 1
 |two2 (h:Hold) (hk:h.kind=3\/h.kind=15) (hw:h.wants=[]):St h 2
 |if0 (h:Hold) (hk:h.kind=7) (hw:h.wants=[0,1]) (hb:h.blocks=0):St h 0
 |if1 (h:Hold) (hk:h.kind=7) (hw:h.wants=[1]) (hb:h.blocks=0):St h 1
 |if2 (h:Hold) (hk:h.kind=7) (hw:h.wants=[]) (hb:h.blocks=1):St h 2
 |if3 (h:Hold) (hk:h.kind=7) (hw:h.wants=[]) (hb:h.blocks=2):St h 3
 |while0 (h:Hold) (hk:h.kind=8) (hw:h.wants=[0,1]):St h 0
 |while1 (h:Hold) (hk:h.kind=8) (hw:h.wants=[1]):St h 1
 |while2 (h:Hold) (hk:h.kind=8) (hw:h.wants=[]):St h 2
 |block (h:Hold) (n:Int) (hk:h.kind=9) (hw:h.wants=[]) (hn:0<=n):St h n
structure Good1 (j:Nat) (h:Hold) (r:Opn):Prop where
 hd:h.depth=j+1
 rd:r.depth=j+1
 kd:r.kind=h.kind
 st:St h r.has
 bl:0<=h.blocks/\h.blocks+(h.wants.count 1:Nat)<=2
theorem ziR{b x:Int}{rest:List Int}(h:0<=b/\b+((x::rest).count 1:Nat)<=2):0<=(if x=1 then b+1 else b)/\(if x=1 then b+1 else b)+(rest.count 1:Nat)<=2:=by
 by_cases e:x=1
 ·subst e
  rw[List.count_cons_self] at h
  rw[if_pos rfl]
  omega
 ·rw[List.count_cons_of_ne e] at h
  rw[if_neg e]
  exact h
theorem St.lacks{h:Hold}{r:Opn}(hs:St h r.has)(hk:r.kind=h.kind):lacks r=!h.wants.isEmpty:=by
 unfold Go.Proofs.YtonmcakdofbjiaaGreatDoor.lacks
 rw[hk]
 generalize r.has=x at hs
 cases hs with
 |one0 hk hw=>rcases hk with hk|hk|hk|hk<;>rw[hk,hw]<;>rfl
 |one1 hk hw=>rcases hk with hk|hk|hk|hk<;>rw[hk,hw]<;>rfl
 |two0 hk hw=>rcases hk with hk|hk<;>rw[hk,hw]<;>rfl
 |two1 hk hw=>rcases hk with hk|hk<;>rw[hk,hw]<;>rfl
 |two2 hk hw=>rcases hk with hk|hk<;>rw[hk,hw]<;>rfl
 |if0 hk hw=>rw[hk,hw];rfl
 |if1 hk hw=>rw[hk,hw];rfl
 |if2 hk hw=>rw[hk,hw];rfl
 |if3 hk hw=>rw[hk,hw];rfl
 |while0 hk hw=>rw[hk,hw];rfl
 |while1 hk hw=>rw[hk,hw];rfl
 |while2 hk hw=>rw[hk,hw];rfl
 |block _ hk hw hn=>
  rw[hk,hw]
  have:¬x<rwants 9:=by show ¬x<0;omega
  simp[this]
structure Cr (c:List Hold) (st:List Opn):Prop where
 len:st.length=c.length
 good:∀(j:Nat) (h:Hold) (r:Opn),c[j]? =some h->st[j]? =some r->Good1 j h r
 above:∀(i j:Nat) (h g:Hold),i<j->c[i]? =some h->h.wants≠[]->c[j]? =some g->zZ g.kind=true
theorem Cr.take{c:List Hold}{st:List Opn}(h:Cr c st)(k:Nat):Cr (c.take k) (st.take k):=by
 have e1:∀{α:Type} (l:List α) (j:Nat) (x:α),(l.take k)[j]? =some x->l[j]? =some x:=fun l j x hx=>by
  rw[List.getElem?_take] at hx
  split at hx
  ·exact hx
  ·cases hx
 exact⟨by simp[h.len],fun j a b ha hb=>h.good j a b (e1 _ _ _ ha) (e1 _ _ _ hb),fun i j a b hij ha hw hb=>h.above i j a b hij (e1 _ _ _ ha) hw (e1 _ _ _ hb)⟩
theorem Cr.push{c:List Hold}{st:List Opn}(h:Cr c st)(a:Hold)(r:Opn)(hg:Good1 c.length a r)(hab:∀(i:Nat) (b:Hold),c[i]? =some b->b.wants≠[]->zZ a.kind=true):Cr (c++[a]) (st++[r]):=by
 have split1:∀{α:Type} (l:List α) (y:α) (j:Nat) (x:α),(l++[y])[j]? =some x->(j<l.length/\l[j]? =some x)\/(j=l.length/\x=y):=fun l y j x hx=>by
  by_cases hj:j<l.length
  ·rw[List.getElem?_append_left hj] at hx;exact .inl ⟨hj,hx⟩
  ·rw[List.getElem?_append_right (by omega)] at hx
   have:j-l.length=0:=by
    rcases Nat.eq_zero_or_pos (j-l.length) with h0|h0
    ·exact h0
    ·rw[List.getElem?_eq_none (by simp;omega)] at hx;cases hx
   rw[this] at hx
   exact .inr ⟨by omega,by simpa using hx.symm⟩
 refine⟨by simp[h.len],fun j x y hx hy=>?_,fun i j x y hij hx hw hy=>?_⟩
 ·rcases split1 _ _ _ _ hx with⟨h1,h2⟩|⟨h1,rfl⟩
  ·rcases split1 _ _ _ _ hy with⟨h3,h4⟩|⟨h3,rfl⟩
   ·exact h.good j x y h2 h4
   ·have:=h.len;omega
  ·rcases split1 _ _ _ _ hy with⟨h3,h4⟩|⟨h3,rfl⟩
   ·have:=h.len;omega
   ·rw[h1];exact hg
 ·rcases split1 _ _ _ _ hy with⟨h1,h2⟩|⟨h1,rfl⟩
  ·rcases split1 _ _ _ _ hx with⟨h3,h4⟩|⟨h3,rfl⟩
   ·exact h.above i j x y hij h4 hw h2
   ·omega
  ·rcases split1 _ _ _ _ hx with⟨h3,h4⟩|⟨h3,rfl⟩
   ·exact hab i x h4 hw
   ·omega
theorem cut_depth{α:Type}(f:α->Int)(l:List α)(hl:∀(j:Nat) (x:α),l[j]? =some x->f x=j+1)(d:Int):cutN (fun x=>decide (f x<d)) l=min l.length (d-1).toNat:=by
 refine zcP ?_ fun j y hj hy=>?_
 ·rcases Nat.eq_zero_or_pos (min l.length (d-1).toNat) with h|h
  ·exact .inl h
  ·right
   have hlt:min l.length (d-1).toNat-1<l.length:=by omega
   refine⟨l[min l.length (d-1).toNat-1],List.getElem?_eq_getElem hlt,?_⟩
   have:=hl _ _ (List.getElem?_eq_getElem hlt)
   exact decide_eq_true (by omega)
 ·have:=hl _ _ hy
  have:=(List.getElem?_eq_some_iff.1 hy).1
  exact decide_eq_false (by omega)
structure ShI (o:List Hold) (heads:Bool) (st:List Opn) (begun:Bool):Prop where
 open_:∃c lf,o=c++lf/\Cr c st/\(lf=[]\/∃h,lf=[h]/\h.wants=[]/\h.depth=c.length+1/\cont h.kind=false/\h.blocks=0)
 heads:heads=!begun
 beg:st≠[]->begun=true
theorem ShI.start:ShI [] true [] false:=⟨⟨[],[],rfl,⟨rfl,fun j h r hh=>by simp at hh,fun i j h g _ hh=>by simp at hh⟩, .inl rfl⟩,rfl,fun h=>absurd rfl h⟩
section
variable {o:List Hold} {heads begun:Bool} {st:List Opn}
theorem ShI.depth(h:ShI o heads st begun):∀(j:Nat) (x:Hold),o[j]? =some x->x.depth=j+1:=by
 obtain⟨⟨c,lf,rfl,hc,hlf⟩,_⟩:=h
 intro j x hx
 by_cases hj:j<c.length
 ·rw[List.getElem?_append_left hj] at hx
  have hs:j<st.length:=by rw[hc.len];exact hj
  exact(hc.good j x _ hx (List.getElem?_eq_getElem hs)).hd
 ·rw[List.getElem?_append_right (by omega)] at hx
  rcases hlf with rfl|⟨g,rfl,h1,h2,_⟩
  ·simp at hx
  ·cases hk:j-c.length with
   |zero=>rw[hk] at hx;simp at hx;subst hx;rw[h2];omega
   |succ m=>rw[hk] at hx;simp at hx
theorem ShI.small(h:ShI o heads st begun):∀(j:Nat) (x:Hold),o[j]? =some x->0<=x.blocks/\x.blocks<=2:=by
 obtain⟨⟨c,lf,rfl,hc,hlf⟩,_⟩:=h
 intro j x hx
 by_cases hj:j<c.length
 ·rw[List.getElem?_append_left hj] at hx
  have hs:j<st.length:=by rw[hc.len];exact hj
  have:=(hc.good j x _ hx (List.getElem?_eq_getElem hs)).bl
  omega
 ·rw[List.getElem?_append_right (by omega)] at hx
  rcases hlf with rfl|⟨g,rfl,h1,h2,h3,h4⟩
  ·simp at hx
  ·cases hk:j-c.length with
   |zero=>rw[hk] at hx;simp at hx;subst hx;rw[h4];decide
   |succ m=>rw[hk] at hx;simp at hx
theorem ShI.rdepth(h:ShI o heads st begun):∀(j:Nat) (x:Opn),st[j]? =some x->x.depth=j+1:=by
 obtain⟨⟨c,lf,rfl,hc,hlf⟩,_⟩:=h
 intro j x hx
 have hs:j<c.length:=by rw[<-hc.len];exact(List.getElem?_eq_some_iff.1 hx).1
 exact(hc.good j _ x (List.getElem?_eq_getElem hs) hx).rd
theorem ShI.rcut(h:ShI o heads st begun)(d:Int):rcut d st=min st.length (d-1).toNat:=by
 unfold Go.Proofs.YtonmcakdofbjiaaGreatDoor.rcut
 exact cut_depth (fun t:Opn=>t.depth) st h.rdepth d
theorem any_lacks{c:List Hold}{st:List Opn}(h:Cr c st)(k:Nat):(st.drop k).any lacks=true↔∃(j:Nat) (g:Hold),k<=j/\c[j]? =some g/\g.wants≠[]:=by
 rw[List.any_eq_true]
 constructor
 ·rintro⟨r,hr,hl⟩
  obtain⟨j,hj,rfl⟩:=List.getElem_of_mem hr
  simp only[List.length_drop] at hj
  have hlen:=h.len
  have hc:k+j<c.length:=by omega
  have hs:k+j<st.length:=by omega
  refine⟨k+j,c[k+j],by omega,List.getElem?_eq_getElem hc,fun e=>?_⟩
  have hg:=h.good (k+j) _ _ (List.getElem?_eq_getElem hc) (List.getElem?_eq_getElem hs)
  rw[List.getElem_drop,hg.st.lacks hg.kd,e] at hl
  cases hl
 ·rintro⟨j,g,hj,hg,hw⟩
  have hc:=(List.getElem?_eq_some_iff.1 hg).1
  have hs:j<st.length:=by rw[h.len];exact hc
  have hgd:=h.good j g _ hg (List.getElem?_eq_getElem hs)
  refine⟨st[j],List.mem_iff_getElem?.2 ⟨j-k,?_⟩,?_⟩
  ·rw[List.getElem?_drop,show k+(j-k)=j from by omega];exact List.getElem?_eq_getElem hs
  ·rw[hgd.st.lacks hgd.kd]
   cases hgw:g.wants with
   |nil=>exact absurd hgw hw
   |cons _ _=>rfl
theorem ut{h:Hold}{r:Opn}(hs:St h r.has)(hk:r.kind=h.kind)(hw:h.wants=[])(k:Int):xd r k=((decide (h.kind=9)&&yt k) || (decide (h.kind=7/\h.blocks=1)&&decide (k=9))):=by
 unfold xd
 rw[hk]
 generalize r.has=x at hs
 cases hs with
 |one0 hk hw'=>rw[hw] at hw';cases hw'
 |one1 hk hw'=>rcases hk with hk|hk|hk|hk<;>rw[hk]<;>simp[rwants]
 |two0 hk hw'=>rw[hw] at hw';cases hw'
 |two1 hk hw'=>rw[hw] at hw';cases hw'
 |two2 hk hw'=>rcases hk with hk|hk<;>rw[hk]<;>simp[rwants]
 |if0 hk hw'=>rw[hw] at hw';cases hw'
 |if1 hk hw'=>rw[hw] at hw';cases hw'
 |if2 hk hw' hb=>rw[hk,hb];simp
 |if3 hk hw' hb=>rw[hk,hb];simp
 |while0 hk hw'=>rw[hw] at hw';cases hw'
 |while1 hk hw'=>rw[hw] at hw';cases hw'
 |while2 hk hw'=>rw[hk];simp
 |block _ hk hw' hn=>rw[hk];simp
theorem k7{k:Int}(h:cont k=false):zw k=[]/\¬(0<rwants k\/k=9)/\k≠7/\k≠9:=by
 unfold cont at h
 simp only[Bool.or_eq_false_iff,decide_eq_false_iff_not] at h
 obtain⟨h1,h2⟩:=h
 unfold rwants at h1
 unfold zw
 refine⟨?_,?_,?_,h2⟩
 ·split at h1
  ·exact absurd (by decide) h1
  ·rename_i a
   rw[if_neg a]
   split at h1
   ·exact absurd (by decide) h1
   ·rename_i b
    rw[if_neg (by omega),if_neg (by omega)]
 ·unfold rwants;simp only[not_or];exact⟨h1,h2⟩
 ·rintro rfl;exact h1 (by decide)
theorem new_good{k d:Int}(hc:cont k=true)(j:Nat)(hd:d=j+1):Good1 j ⟨k,d,zw k,0⟩ ⟨d,k,0⟩:=by
 have hbl:(0:Int)<=0/\(0:Int)+((zw k).count 1:Nat)<=2:=by
  unfold zw
  split
  ·decide
  ·split
   ·decide
   ·split<;>decide
 refine⟨hd,hd,rfl,?_,hbl⟩
 unfold cont rwants at hc
 simp only[Bool.or_eq_true,decide_eq_true_eq] at hc
 by_cases h1:k=2\/k=5\/k=13\/k=14
 ·exact .one0 _ h1 (by simp[zw,h1])
 ·by_cases h2:k=3\/k=15
  ·exact .two0 _ h2 (by simp[zw,h1,h2])
  ·by_cases h3:k=7
   ·subst h3;exact .if0 _ rfl rfl rfl
   ·by_cases h4:k=8
    ·subst h4;exact .while0 _ rfl rfl
    ·by_cases h5:k=9
     ·subst h5;exact .block _ _ rfl rfl (Int.le_refl _)
     ·exfalso
      rw[if_neg h1,if_neg (by omega)] at hc
      omega
theorem ShI.behind{c:List Hold}{st':List Opn}(hc:Cr c st')(n:Nd)(hd:n.depth=c.length+1)(hab:cont n.kind=true->∀(i:Nat) (b:Hold),c[i]? =some b->b.wants≠[]->zZ n.kind=true){heads' begun':Bool}(hh:heads'=!begun')(hb:c≠[]\/cont n.kind=true->begun'=true):
 ShI (c++[⟨n.kind,n.depth,zw n.kind,0⟩]) heads' (kS st' n) begun':=by
 unfold kS
 cases hk:cont n.kind with
 |true=>
  have e:0<rwants n.kind\/n.kind=9:=by unfold cont at hk;simpa using hk
  rw[if_pos e]
  exact⟨⟨_,[],by simp,hc.push _ _ (new_good hk _ hd) (hab hk), .inl rfl⟩,hh,fun _=>hb (.inr hk)⟩
 |false=>
  obtain⟨h1,h2,_⟩:=k7 hk
  rw[if_neg h2]
  refine⟨⟨c,_,rfl,hc, .inr ⟨_,rfl,h1,hd,hk,rfl⟩⟩,hh,fun hs=>hb (.inl ?_)⟩
  rintro rfl
  exact hs (List.eq_nil_of_length_eq_zero hc.len)
def Same(x:Option (List Hold×Bool))(y:Option (List Opn×Bool))(n:Nd):Prop:=
 (x=none/\y=none)\/∃o' h' st' b',x=some (o',h')/\y=some (st',b')/\(o'.length:Int)=n.depth/\ShI o' h' (kS st' n) b'
theorem take_last{α:Type}{l:List α}{i:Nat}{x:α}(h:l[i]? =some x):l.take (i+1)=l.take i++[x]:=by
 rw[List.take_add_one,h];rfl
theorem zdc(h:ShI o heads st begun)(ho:o.length<=24)(n:Nd)(hlo: -9223372036854775808<=n.depth)(hhi:n.depth<=9223372036854775807):Same (xw o heads n) (gu st begun n) n:=by
 unfold xw gu
 cases hf:fieldsB n with
 |false=>left;simp
 |true=>
  simp only[Bool.true_eq_false,if_false,or_false]
  have hdep:=h.depth
  have hrd:=h.rdepth
  have hhd:=h.heads
  have hbg:=h.beg
  rw[h.rcut n.depth]
  obtain⟨⟨c,lf,rfl,hc,hlf⟩,_,_⟩:=id h
  have hlen:=hc.len
  have hcut:∀o1:List Hold,(∀(j:Nat) (x:Hold),o1[j]? =some x->x.depth=j+1)->popF n.depth o1=o1.take (min o1.length (n.depth-1).toNat):=fun o1 h1=>by
   unfold popF
   rw[cut_depth (fun x:Hold=>x.depth) o1 h1]
  have hlw:∀(j:Nat) (x:Hold),c.length<=j->(c++lf)[j]? =some x->x.wants=[]/\cont x.kind=false:=fun j x hj hx=>by
   rw[List.getElem?_append_right hj] at hx
   rcases hlf with rfl|⟨g,rfl,h1,_,h2⟩
   ·simp at hx
   ·cases hk:j-c.length with
    |zero=>rw[hk] at hx;simp at hx;subst hx;exact⟨h1,h2.1⟩
    |succ m=>rw[hk] at hx;simp at hx
  have hcl:c.length<=(c++lf).length:=by simp
  have hlfl:(c++lf).length<=c.length+1:=by
   rcases hlf with rfl|⟨g,rfl,_⟩<;>simp
  cases hwi:xX (c++lf) with
  |some w=>
   obtain⟨⟨g,hg,hgw⟩,hbe⟩:=xq hwi
   have hgw':g.wants≠[]:=by intro e;rw[e] at hgw;cases hgw
   have hwc:w<c.length:=by
    rcases Nat.lt_or_ge w c.length with h'|h'
    ·exact h'
    ·exact absurd (hlw w g h' hg).1 hgw'
   have hcg:c[w]? =some g:=by rw[List.getElem?_append_left hwc] at hg;exact hg
   have hsw:st[w]? =some st[w]:=List.getElem?_eq_getElem (by omega)
   generalize hr:st[w]=r at hsw
   have hG:=hc.good w g r hcg hsw
   have hbeh:∀(j:Nat) (x:Hold),w<j->c[j]? =some x->x.wants=[]/\zZ x.kind=true:=fun j x hj hx=>by
    have hjl:=(List.getElem?_eq_some_iff.1 hx).1
    have:=hbe j x hj (by rw[List.getElem?_append_left hjl];exact hx)
    refine⟨?_,hc.above w j g x hj hcg hgw' hx⟩
    cases hxw:x.wants with
    |nil=>rfl
    |cons _ _=>rw[hxw] at this;cases this
   have hb1:begun=true:=hbg (by rintro rfl;simp at hlen;omega)
   have hgd:=hG.hd
   unfold takeF
   simp only[hwi,hg]
   obtain⟨x,rest,hxr⟩:∃x rest,g.wants=x::rest:=by
    cases hgw2:g.wants with
    |nil=>exact absurd hgw2 hgw'
    |cons x rest=>exact⟨x,rest,rfl⟩
   simp only[hxr]
   by_cases hd:n.depth=w+2
   ·have hk:min st.length (n.depth-1).toNat=w+1:=by omega
    have hnl:((st.drop (w+1)).any lacks=true)=False:=by
     apply eq_false
     rw[any_lacks hc]
     rintro⟨j,y,h1,h2,h3⟩
     exact h3 (hbeh j y (by omega) h2).1
    rw[hk]
    simp only[hnl,if_false,hsw]
    rw[if_neg (show ¬(n.depth≠((w+1:Nat):Int)+1) by omega)]
    have hdg:(n.depth≠g.depth+1)=False:=by apply eq_false;omega
    simp only[hdg,false_or]
    have acc:∀(g':Hold) (r':Opn),g'.kind=g.kind->Good1 w g' r'->n.kind≠0->n.kind≠1->(cont n.kind=true->zZ n.kind=true\/(g'.wants=[]/\∀(i:Nat) (b:Hold),i<w->c[i]? =some b->b.wants=[]))->
     ∃o' h' st' b',some (popF n.depth ((c++lf).set w g')++[⟨n.kind,n.depth,zw n.kind,0⟩],if n.kind=0\/n.kind=1 then heads else false)=some (o',h')/\some (st.take w++[r'],begun)=some (st',b')/\(o'.length:Int)=n.depth/\ShI o' h' (kS st' n) b':=by
     intro g' r' hgk hG' h0 h1 hcase
     refine⟨_,_,_,_,rfl,rfl,?_⟩
     have e1:popF n.depth ((c++lf).set w g')=c.take w++[g']:=by
      rw[hcut _ fun j y hy=>?_]
      ·have e2:min ((c++lf).set w g').length (n.depth-1).toNat=w+1:=by rw[List.length_set];omega
       rw[e2]
       have e3:((c++lf).set w g')[w]? =some g':=by rw[List.getElem?_set_self (by simp;omega)]
       rw[take_last e3,List.take_set_of_le (by omega)]
       rw[List.take_append_of_le_length (by omega)]
      ·rw[List.getElem?_set] at hy
       split at hy
       ·rename_i e
        split at hy
        ·cases hy;subst e;exact hG'.hd
        ·cases hy
       ·exact hdep j y hy
     rw[e1,if_neg (by omega)]
     have hcw:(c.take w).length=w:=by simp;omega
     have hC:Cr (c.take w++[g']) (st.take w++[r']):=by
      refine(hc.take w).push g' r' (by rw[hcw];exact hG') fun i b hb hbw=>?_
      have hiw:i<w:=by have:=(List.getElem?_eq_some_iff.1 hb).1;omega
      rw[List.getElem?_take,if_pos hiw] at hb
      rw[hgk]
      exact hc.above i w b g hiw hb hbw hcg
     refine⟨by simp;omega,ShI.behind hC n (by simp;omega) ?_ (by rw[hb1];rfl) fun _=>hb1⟩
     intro hk2 i b hb hbw
     rcases hcase hk2 with h'|⟨h1',h2'⟩
     ·exact h'
     ·exfalso
      by_cases hi:i<w
      ·rw[List.getElem?_append_left (by omega),List.getElem?_take,if_pos hi] at hb
       exact hbw (h2' i b hi hb)
      ·have hl:=(List.getElem?_eq_some_iff.1 hb).1
       simp at hl
       have:i=w:=by omega
       subst this
       rw[List.getElem?_append_right (by omega),hcw] at hb
       simp at hb
       subst hb
       exact hbw h1'
    have ex:∀(g':Hold) (r':Opn),x=0->xd r n.kind=zZ n.kind->g'={g with wants:=rest,blocks:=if x=1 then g.blocks+1 else g.blocks}->r'={r with has:=r.has+1}->Good1 w g' r'->
     Same (match (if (x=0/\zZ n.kind=false)\/(x=1/\n.kind≠9) then none else some ((c++lf).set w {g with wants:=rest,blocks:=if x=1 then g.blocks+1 else g.blocks})) with
      |none=>none
      |some o1=>some (popF n.depth o1++[⟨n.kind,n.depth,zw n.kind,0⟩],if n.kind=0\/n.kind=1 then heads else false)) (if xd r n.kind=false then none else some (st.take w++[{r with has:=r.has+1}],begun)) n:=by
     rintro g' r' rfl hrh rfl rfl hG'
     rw[hrh]
     cases he:zZ n.kind with
     |false=>left;simp
     |true=>
      right
      have hke:10<=n.kind:=by unfold zZ at he;simp at he;exact he.1
      have:=acc {g with wants:=rest,blocks:=if (0:Int)=1 then g.blocks+1 else g.blocks} {r with has:=r.has+1} rfl hG' (by omega) (by omega) fun _=> .inl he
      simpa using this
    have bl:∀(g':Hold) (r':Opn),x=1->rest=[]->(g.kind=7\/g.kind=8)->xd r n.kind=decide (n.kind=9)->g'={g with wants:=rest,blocks:=if x=1 then g.blocks+1 else g.blocks}->r'={r with has:=r.has+1}->Good1 w g' r'->
     Same (match (if (x=0/\zZ n.kind=false)\/(x=1/\n.kind≠9) then none else some ((c++lf).set w {g with wants:=rest,blocks:=if x=1 then g.blocks+1 else g.blocks})) with
      |none=>none
      |some o1=>some (popF n.depth o1++[⟨n.kind,n.depth,zw n.kind,0⟩],if n.kind=0\/n.kind=1 then heads else false)) (if xd r n.kind=false then none else some (st.take w++[{r with has:=r.has+1}],begun)) n:=by
     rintro g' r' rfl rfl hgk hrh rfl rfl hG'
     rw[hrh]
     by_cases he:n.kind=9
     ·right
      have:=acc {g with wants:=[],blocks:=if (1:Int)=1 then g.blocks+1 else g.blocks} {r with has:=r.has+1} rfl hG' (by omega) (by omega) fun _=> .inr ⟨rfl,fun i b hi hb=>by
       rcases Classical.em (b.wants=[]) with h'|h'
       ·exact h'
       ·have:=hc.above i w b g hi hb h' hcg
        unfold zZ at this
        simp at this
        omega⟩
      simpa [he] using this
     ·left;simp[he]
    have hst:=hG.st
    have hbl:=hG.bl
    rw[hxr] at hbl
    have hbl:=ziR hbl
    have hkd:=hG.kd
    have hrdw:=hG.rd
    clear acc
    obtain⟨rd,rk,rh⟩:=r
    simp only at hkd hrdw hst
    subst hkd
    cases hst with
    |one0 hk2 hw2=>
     rw[hxr] at hw2
     obtain⟨rfl,rfl⟩:x=0/\rest=[]:=by simpa using hw2
     refine ex _ _ rfl ?_ rfl rfl ⟨hgd,hrdw,rfl, .one1 _ hk2 rfl,hbl⟩
     unfold xd
     rcases hk2 with hk2|hk2|hk2|hk2<;>rw[hk2]<;>simp[rwants]
    |one1 hk2 hw2=>rw[hxr] at hw2;cases hw2
    |two0 hk2 hw2=>
     rw[hxr] at hw2
     obtain⟨rfl,rfl⟩:x=0/\rest=[0]:=by simpa using hw2
     refine ex _ _ rfl ?_ rfl rfl ⟨hgd,hrdw,rfl, .two1 _ hk2 rfl,hbl⟩
     unfold xd
     rcases hk2 with hk2|hk2<;>rw[hk2]<;>simp[rwants]
    |two1 hk2 hw2=>
     rw[hxr] at hw2
     obtain⟨rfl,rfl⟩:x=0/\rest=[]:=by simpa using hw2
     refine ex _ _ rfl ?_ rfl rfl ⟨hgd,hrdw,rfl, .two2 _ hk2 rfl,hbl⟩
     unfold xd
     rcases hk2 with hk2|hk2<;>rw[hk2]<;>simp[rwants]
    |two2 hk2 hw2=>rw[hxr] at hw2;cases hw2
    |if0 hk2 hw2 hb2=>
     rw[hxr] at hw2
     obtain⟨rfl,rfl⟩:x=0/\rest=[1]:=by simpa using hw2
     refine ex _ _ rfl ?_ rfl rfl ⟨hgd,hrdw,rfl, .if1 _ hk2 rfl (by simpa using hb2),hbl⟩
     unfold xd
     rw[hk2];simp
    |if1 hk2 hw2 hb2=>
     rw[hxr] at hw2
     obtain⟨rfl,rfl⟩:x=1/\rest=[]:=by simpa using hw2
     refine bl _ _ rfl rfl (.inl hk2) ?_ rfl rfl ⟨hgd,hrdw,rfl, .if2 _ hk2 rfl (by simp[hb2]),hbl⟩
     unfold xd
     rw[hk2];simp
    |if2 hk2 hw2=>rw[hxr] at hw2;cases hw2
    |if3 hk2 hw2=>rw[hxr] at hw2;cases hw2
    |while0 hk2 hw2=>
     rw[hxr] at hw2
     obtain⟨rfl,rfl⟩:x=0/\rest=[1]:=by simpa using hw2
     refine ex _ _ rfl ?_ rfl rfl ⟨hgd,hrdw,rfl, .while1 _ hk2 rfl,hbl⟩
     unfold xd
     rw[hk2];simp
    |while1 hk2 hw2=>
     rw[hxr] at hw2
     obtain⟨rfl,rfl⟩:x=1/\rest=[]:=by simpa using hw2
     refine bl _ _ rfl rfl (.inr hk2) ?_ rfl rfl ⟨hgd,hrdw,rfl, .while2 _ hk2 rfl,hbl⟩
     unfold xd
     rw[hk2];simp
    |while2 hk2 hw2=>rw[hxr] at hw2;cases hw2
    |block _ hk2 hw2=>rw[hxr] at hw2;cases hw2
   ·left
    refine⟨by rw[if_pos (.inl (by omega))],?_⟩
    generalize hkk:min st.length (n.depth-1).toNat=k
    split
    ·rfl
    ·rename_i hnl
     rw[any_lacks hc] at hnl
     split
     ·rfl
     ·rename_i hdk
      have hdk:n.depth=k+1:=by omega
      have hwk:w<k:=by
       rcases Nat.lt_or_ge w k with h'|h'
       ·exact h'
       ·exact absurd ⟨w,g,h',hcg,hgw'⟩ hnl
      cases k with
      |zero=>omega
      |succ i=>
       have hi:i<c.length:=by omega
       have hci:c[i]? =some c[i]:=List.getElem?_eq_getElem hi
       have hsi:st[i]? =some st[i]:=List.getElem?_eq_getElem (by omega)
       generalize c[i]=g2 at hci
       generalize st[i]=r2 at hsi
       have hG2:=hc.good i g2 r2 hci hsi
       have hb2:=hbeh i g2 (by omega) hci
       simp only[hsi]
       rw[ut hG2.st hG2.kd hb2.1]
       have:=hb2.2
       unfold zZ at this
       simp at this
       have e9:g2.kind≠9:=by omega
       have e7:¬(g2.kind=7/\g2.blocks=1):=by omega
       simp[e9,e7]
  |none=>
   have hnw:∀(j:Nat) (x:Hold),c[j]? =some x->x.wants=[]:=fun j x hx=>by
    have hjl:=(List.getElem?_eq_some_iff.1 hx).1
    have:=qw hwi j x (by rw[List.getElem?_append_left hjl];exact hx)
    cases hxw:x.wants with
    |nil=>rfl
    |cons _ _=>rw[hxw] at this;cases this
   have hnl:∀k,((st.drop k).any lacks=true)=False:=fun k=>by
    apply eq_false
    rw[any_lacks hc]
    rintro⟨j,y,h1,h2,h3⟩
    exact h3 (hnw j y h2)
   simp only[hnl,if_false]
   unfold takeF
   simp only[hwi]
   generalize hkk:min st.length (n.depth-1).toNat=k
   have top:∀i:Nat,k=i+1->n.depth=i+2->∃g r,c[i]? =some g/\st[i]? =some r/\Good1 i g r/\xd r n.kind=((decide (g.kind=9)&&yt n.kind) || (decide (g.kind=7/\g.blocks=1)&&decide (n.kind=9))):=by
    intro i hi hdi
    have hic:i<c.length:=by omega
    have hci:c[i]? =some c[i]:=List.getElem?_eq_getElem hic
    have hsi:st[i]? =some st[i]:=List.getElem?_eq_getElem (by omega)
    have hG2:=hc.good i _ _ hci hsi
    exact⟨_,_,hci,hsi,hG2,ut hG2.st hG2.kd (hnw i _ hci) n.kind⟩
   have put:∀(i:Nat) (g':Hold) (r':Opn) (o1:List Hold),n.depth=i+2->i<c.length->(o1=c++lf/\c[i]? =some g'\/o1=(c++lf).set i g'/\(∃g,c[i]? =some g/\g'.kind=g.kind))->Good1 i g' r'->g'.wants=[]->n.kind≠0->n.kind≠1->
    ∃o' h' st' b',some (popF n.depth o1++[⟨n.kind,n.depth,zw n.kind,0⟩],if n.kind=0\/n.kind=1 then heads else false)=some (o',h')/\some (st.take i++[r'],begun)=some (st',b')/\(o'.length:Int)=n.depth/\ShI o' h' (kS st' n) b':=by
    intro i g' r' o1 hdi hic ho1 hG' hw' h0 h1
    have hb1:begun=true:=hbg (by rintro rfl;simp at hlen;omega)
    refine⟨_,_,_,_,rfl,rfl,?_⟩
    have hdo:∀(j:Nat) (y:Hold),o1[j]? =some y->y.depth=j+1:=by
     rcases ho1 with⟨rfl,_⟩|⟨rfl,_⟩
     ·exact hdep
     ·intro j y hy
      rw[List.getElem?_set] at hy
      split at hy
      ·rename_i e
       split at hy
       ·cases hy;subst e;exact hG'.hd
       ·cases hy
      ·exact hdep j y hy
    have hl1:o1.length=(c++lf).length:=by rcases ho1 with⟨rfl,_⟩|⟨rfl,_⟩<;>simp
    have e1:popF n.depth o1=c.take i++[g']:=by
     rw[hcut _ hdo]
     have e2:min o1.length (n.depth-1).toNat=i+1:=by rw[hl1];simp;omega
     rw[e2]
     rcases ho1 with⟨rfl,hcg⟩|⟨rfl,_⟩
     ·rw[List.take_append_of_le_length (by omega),take_last hcg]
     ·have e3:((c++lf).set i g')[i]? =some g':=by rw[List.getElem?_set_self (by simp;omega)]
      rw[take_last e3,List.take_set_of_le (by omega),List.take_append_of_le_length (by omega)]
    rw[e1,if_neg (by omega)]
    have hcw:(c.take i).length=i:=by simp;omega
    have hC:Cr (c.take i++[g']) (st.take i++[r']):=by
     refine(hc.take i).push g' r' (by rw[hcw];exact hG') fun j b hb hbw=>?_
     have hj:j<i:=by have:=(List.getElem?_eq_some_iff.1 hb).1;omega
     rw[List.getElem?_take,if_pos hj] at hb
     exact absurd (hnw j b hb) hbw
    refine⟨by simp;omega,ShI.behind hC n (by simp;omega) ?_ (by rw[hb1];rfl) fun _=>hb1⟩
    intro hk2 j b hb hbw
    exfalso
    by_cases hj:j<i
    ·rw[List.getElem?_append_left (by omega),List.getElem?_take,if_pos hj] at hb
     exact hbw (hnw j b hb)
    ·have hl:=(List.getElem?_eq_some_iff.1 hb).1
     simp at hl
     have:j=i:=by omega
     subst this
     rw[List.getElem?_append_right (by omega),hcw] at hb
     simp at hb
     subst hb
     exact hbw hw'
   have first:∀(b' h':Bool),n.depth=1->h'=!b'->(cont n.kind=true->b'=true)->∃o' h2 st' b2,some (popF n.depth (c++lf)++[⟨n.kind,n.depth,zw n.kind,0⟩],h')=some (o',h2)/\some (([]:List Opn),b')=some (st',b2)/\(o'.length:Int)=n.depth/\ShI o' h2 (kS st' n) b2:=by
    intro b' h' hd1 hh' hb'
    have e1:popF n.depth (c++lf)=[]:=by
     rw[hcut _ hdep,show min (c++lf).length (n.depth-1).toNat=0 from by omega];rfl
    refine⟨_,_,_,_,rfl,rfl,?_⟩
    rw[e1]
    refine⟨by simp;omega,ShI.behind (c:=[]) ⟨rfl,fun j h r hh=>by simp at hh,fun i j h g _ hh=>by simp at hh⟩ n (by simp;omega) (fun _ i b hb=>by simp at hb) hh' fun hx=>?_⟩
    rcases hx with hx|hx
    ·exact absurd rfl hx
    ·exact hb' hx
   have held:∀u:Nat,heldIx (c++lf) (IntKind.wrap .i64 (n.depth-1))=some u->n.depth=u+2/\u<(c++lf).length:=by
    intro u hu
    obtain⟨⟨y,h1,h2⟩,_⟩:=xq hu
    have hy:=hdep u y h1
    have hul:=(List.getElem?_eq_some_iff.1 h1).1
    have h2:y.depth=IntKind.wrap .i64 (n.depth-1):=by simpa using h2
    rw[hy] at h2
    refine⟨?_,hul⟩
    simp only[IntKind.wrap,IntKind.signed,IntKind.bits] at h2
    simp at h2
    split at h2<;>omega
   have notheld:heldIx (c++lf) (IntKind.wrap .i64 (n.depth-1))=none->2<=n.depth->((c++lf).length:Int)+1<n.depth:=by
    intro hu hd2
    rcases Int.lt_or_le ((c++lf).length+1:Int) n.depth with h'|h'
    ·exact h'
    ·exfalso
     have hlt:(n.depth-2).toNat<(c++lf).length:=by omega
     have:=qw hu _ _ (List.getElem?_eq_getElem hlt)
     have hy:=hdep _ _ (List.getElem?_eq_getElem hlt)
     rw[hy] at this
     have hw2:IntKind.wrap .i64 (n.depth-1)=n.depth-1:=by
      simp only[IntKind.wrap,IntKind.signed,IntKind.bits]
      simp
      split<;>omega
     rw[hw2] at this
     simp at this
     omega
   by_cases h01:n.kind=0\/n.kind=1
   ·simp only[h01,if_true,true_and,not_true,false_and,or_false]
    by_cases hd1:n.depth=1
    ·have hk0:k=0:=by omega
     subst hk0
     rw[if_neg (show ¬(n.depth≠((0:Nat):Int)+1) by omega)]
     dsimp only
     rw[hhd]
     cases begun with
     |true=>left;constructor<;>simp
     |false=>
      right
      have hcn:cont n.kind=false:=by rcases h01 with e|e<;>rw[e]<;>rfl
      have:=first false true hd1 rfl (by rw[hcn];intro h;cases h)
      rw[if_neg (show ¬(n.depth≠1\/(!false)=false) by simp[hd1])]
      simpa using this
    ·left
     refine⟨by simp[hd1],?_⟩
     split
     ·rfl
     ·rename_i hdk
      cases k with
      |zero=>exact absurd (by omega) hd1
      |succ i=>
       obtain⟨g,r,h1,h2,h3,h4⟩:=top i rfl (by omega)
       dsimp only
       rw[h2]
       dsimp only
       have e1:yt n.kind=false:=by rcases h01 with e|e<;>rw[e]<;>rfl
       have e2:¬n.kind=9:=by omega
       rw[h4]
       simp[e1,e2]
   ·simp only[h01,if_false,false_and,not_false_eq_true,true_and,false_or]
    by_cases hs:yt n.kind=true
    ·have hs2:2<=n.kind/\n.kind<=8:=by unfold yt at hs;simpa using hs
     simp only[hs,if_true,Bool.true_eq_false,if_false]
     by_cases hd1:n.depth=1
     ·have hk0:k=0:=by omega
      subst hk0
      rw[if_neg (show ¬(n.depth≠((0:Nat):Int)+1) by omega),if_pos hd1]
      right
      have:=first true false hd1 rfl fun _=>rfl
      simpa using this
     ·simp only[hd1,if_false]
      cases hh:heldIx (c++lf) (IntKind.wrap .i64 (n.depth-1)) with
      |none=>
       left
       refine⟨rfl,?_⟩
       have:=notheld hh
       rw[if_pos (by omega)]
      |some u=>
       obtain⟨hdu,hul⟩:=held u hh
       have huo:(c++lf)[u]? =some (c++lf)[u]:=List.getElem?_eq_getElem hul
       by_cases huc:u<c.length
       ·have hku:k=u+1:=by omega
        obtain⟨g,r,h1,h2,h3,h4⟩:=top u hku (by omega)
        have h1':(c++lf)[u]? =some g:=by rw[List.getElem?_append_left huc];exact h1
        rw[hku,if_neg (by omega)]
        dsimp only
        rw[h1',h2]
        dsimp only
        rw[h4]
        by_cases h9:g.kind=9
        ·right
         have hG':Good1 u g {r with has:=r.has+1}:=by
          refine⟨h3.hd,h3.rd,h3.kd,?_,h3.bl⟩
          have hst:=h3.st
          show St g (r.has+1)
          generalize r.has=x at hst⊢
          cases hst with
          |block _ a b c=>exact .block _ _ a b (by omega)
          |one0 a _=>omega
          |one1 a _=>omega
          |two0 a _=>omega
          |two1 a _=>omega
          |two2 a _=>omega
          |if0 a _ _=>omega
          |if1 a _ _=>omega
          |if2 a _ _=>omega
          |if3 a _ _=>omega
          |while0 a _=>omega
          |while1 a _=>omega
          |while2 a _=>omega
         have:=put u g _ _ hdu huc (.inl ⟨rfl,h1⟩) hG' (hnw u g h1) (by omega) (by omega)
         simpa [h9,hs,h01] using this
        ·left
         have e9:¬n.kind=9:=by omega
         simp[h9,e9]
       ·left
        have hx:=hlw u _ (by omega) huo
        have h9:=(k7 hx.2).2.2.2
        dsimp only
        rw[huo]
        dsimp only
        refine⟨by rw[if_neg h9],?_⟩
        rw[if_pos (by omega)]
    ·have hs':yt n.kind=false:=by simpa using hs
     simp only[hs',Bool.false_eq_true,if_false,if_true]
     by_cases h9:n.kind=9
     ·simp only[h9,if_true]
      cases hh:heldIx (c++lf) (IntKind.wrap .i64 (n.depth-1)) with
      |none=>
       left
       refine⟨rfl,?_⟩
       have:=notheld hh
       split
       ·rfl
       ·rename_i hdk
        cases k with
        |zero=>rfl
        |succ i=>exact absurd (this (by omega)) (by omega)
      |some u=>
       obtain⟨hdu,hul⟩:=held u hh
       have huo:(c++lf)[u]? =some (c++lf)[u]:=List.getElem?_eq_getElem hul
       by_cases huc:u<c.length
       ·have hku:k=u+1:=by omega
        obtain⟨g,r,h1,h2,h3,h4⟩:=top u hku (by omega)
        have h1':(c++lf)[u]? =some g:=by rw[List.getElem?_append_left huc];exact h1
        rw[hku,if_neg (by omega)]
        dsimp only
        rw[h1',h2]
        dsimp only
        rw[h9] at h4
        rw[h4]
        by_cases h7:g.kind=7/\g.blocks=1
        ·right
         have hG':Good1 u {g with blocks:=g.blocks+1} {r with has:=r.has+1}:=by
          refine⟨h3.hd,h3.rd,h3.kd,?_,by have:=hnw u g h1;show 0<=g.blocks+1/\g.blocks+1+(g.wants.count 1:Nat)<=2;rw[this,h7.2];decide⟩
          have hst:=h3.st
          show St _ (r.has+1)
          generalize r.has=x at hst⊢
          cases hst with
          |if2 a b c=>exact .if3 _ a b (by show g.blocks+1=2;omega)
          |if3 a b c=>omega
          |if0 a b c=>omega
          |if1 a b c=>omega
          |block _ a _ _=>omega
          |one0 a _=>omega
          |one1 a _=>omega
          |two0 a _=>omega
          |two1 a _=>omega
          |two2 a _=>omega
          |while0 a _=>omega
          |while1 a _=>omega
          |while2 a _=>omega
         have:=put u {g with blocks:=g.blocks+1} _ _ hdu huc (.inr ⟨rfl,g,h1,rfl⟩) hG' (hnw u g h1) (by omega) (by omega)
         have e:yt 9=false:=rfl
         simpa [h7,h9,e] using this
        ·left
         have e:yt 9=false:=rfl
         simp[h7,e]
       ·left
        have hx:=hlw u _ (by omega) huo
        have h7:=(k7 hx.2).2.2.1
        dsimp only
        rw[huo]
        dsimp only
        refine⟨by rw[if_neg (by omega)],?_⟩
        rw[if_pos (by omega)]
     ·simp only[h9,if_false]
      left
      refine⟨rfl,?_⟩
      split
      ·rfl
      ·rename_i hdk
       cases k with
       |zero=>rfl
       |succ i=>
        obtain⟨g,r,h1,h2,h3,h4⟩:=top i rfl (by omega)
        dsimp only
        rw[h2]
        dsimp only
        rw[h4]
        simp[hs',h9]
end
theorem isExpr_any(x:Int)(w:World):Calls Tryz.prog 96 #[.int .i64 x] w fun e w'=>e= .returned (.bool (zZ x))/\w'=w:=by
 go_enter Tryz.func96,Tryz.ntmps96
 go_wp2
 all_goals
  go_ret
  refine⟨?_,rfl⟩
  show Ending.returned (.bool _)=Ending.returned (.bool _)
  refine congrArg _ (congrArg _ ?_)
  rw[Bool.eq_iff_iff]
  simp[zZ]
  try omega
theorem isStmt_any(x:Int)(w:World):Calls Tryz.prog 98 #[.int .i64 x] w fun e w'=>e= .returned (.bool (yt x))/\w'=w:=by
 go_enter Tryz.func98,Tryz.ntmps98
 go_wp2
 all_goals
  go_ret
  refine⟨?_,rfl⟩
  show Ending.returned (.bool _)=Ending.returned (.bool _)
  refine congrArg _ (congrArg _ ?_)
  rw[Bool.eq_iff_iff]
  simp[yt]
  try omega
def wantsV(n:Nat)(l:List Int):Value:=if l=[] then .slice none 0 0 else .slice (some ⟨n,0,none⟩) l.length l.length
def wantsW(w:World)(l:List Int):World:=if l=[] then w else w.alloc (.cells (l.map (Value.int .i64)).toArray 3)
theorem zcZ(x:Int)(w:World):Calls Tryz.prog 99 #[.int .i64 x] w fun e w'=>e= .returned (wantsV w.heap.size (zw x))/\w'=wantsW w (zw x):=by
 go_enter Tryz.func99,Tryz.ntmps99
 go_wp2
 all_goals
  go_ret
  simp_all [wantsV,wantsW,zw]
theorem kz{s:ByteArray}{k:Nat}(hk:k<s.size)(h:okAt s k=false):nameableB s=false:=by
 have:(List.range s.size).all (okAt s)=false:=by
  rw[Bool.eq_false_iff]
  intro ha
  rw[List.all_eq_true] at ha
  rw[ha k (List.mem_range.2 hk)] at h
  cases h
 simp[nameableB,this]
theorem nameable_all{s:ByteArray}(h:∀j,j<s.size->okAt s j=true):nameableB s=(decide (0<s.size)&&decide (s.size<=16)&&!zd s):=by
 have:(List.range s.size).all (okAt s)=true:=by
  rw[List.all_eq_true]
  exact fun j hj=>h j (List.mem_range.1 hj)
 simp[nameableB,this]
theorem uq(s:ByteArray):s.toList.length=s.size:=by
 rw[ByteArray.toList_eq]
 simp
theorem jN{s:ByteArray}{k:Nat}(h:k<s.size):okAt s k=(isLetter (s[k]).toNat || (decide (k≠0)&&isDigit (s[k]).toNat)):=by
 unfold okAt
 rw[dif_pos h]
theorem za2(s:ByteArray)(hs:s.size<=140737488355328)(w:World):Calls Tryz.prog 133 #[.string s] w fun e w'=>e= .returned (.bool (nameableB s))/\w'=w:=by
 go_enter Tryz.func133,Tryz.ntmps133
 go_wp2
 go_loop [3] (fun c=>∃k:Nat,k<=s.size/\c= .int .i64 k/\∀j:Nat,j<k->okAt s j=true) (fun c=>s.size-(intOf c).toNat)
 case atStart=>exact⟨0,Nat.zero_le _,rfl,fun j h=>absurd h (Nat.not_lt_zero _)⟩
 case round=>
  obtain⟨k,h2,rfl,h3⟩:=hrel
  by_cases hlt:k<s.size
  ·by_cases h95:(((s[k]).toNat:Int)==95)=true
   ·have e95:((s[k]).toNat:Int)=95:=eq_of_beq h95
    go_wp2_with (go_at_call 156;refine(qc _ _).mono ?_;rintro e w' ⟨rfl,rfl⟩)
    all_goals first
     |(refine⟨⟨k+1,by omega,by first|go_num|(simp;done)|(simp;omega),fun j hj=>?_⟩,by simp[intOf];omega⟩
       by_cases e:j=k
       ·subst e
        rw[jN hlt]
        simp only[isLetter,isDigit,Bool.or_eq_true,Bool.and_eq_true,decide_eq_true_eq,ne_eq]
        omega
       ·exact h3 j (by omega))
     |(go_ret
       have hno:okAt s k=false:=by
        (rw[jN hlt]
         refine Bool.eq_false_iff.2 fun hh=>?_
         simp only[isLetter,isDigit,Bool.or_eq_true,Bool.and_eq_true,decide_eq_true_eq,ne_eq,not_true_eq_false,false_and,or_false,not_false_eq_true,true_and] at hh
         omega)
       (refine⟨?_,rfl⟩);(have e:=kz hlt hno);(simp[e]))
     |(exfalso;simp only[Bool.not_eq_false',Bool.not_eq_true',decide_eq_true_eq,decide_eq_false_iff_not,h95] at*;omega)
   ·have h95:(((s[k]).toNat:Int)==95)=false:=by simpa using h95
    have e95:((s[k]).toNat:Int)≠95:=by simpa using h95
    by_cases hk0:k=0
    ·subst hk0
     go_wp2_with (go_at_call 156;refine(qc _ _).mono ?_;rintro e w' ⟨rfl,rfl⟩)
     all_goals first
      |(refine⟨⟨0+1,by omega,by first|go_num|(simp;done)|(simp;omega),fun j hj=>?_⟩,by simp[intOf];omega⟩
        by_cases e:j=0
        ·subst e
         rw[jN hlt]
         simp only[isLetter,isDigit,Bool.or_eq_true,Bool.and_eq_true,decide_eq_true_eq,ne_eq]
         omega
        ·exact h3 j (by omega))
      |(go_ret
        have hno:okAt s 0=false:=by
         (rw[jN hlt]
          refine Bool.eq_false_iff.2 fun hh=>?_
          simp only[isLetter,isDigit,Bool.or_eq_true,Bool.and_eq_true,decide_eq_true_eq,ne_eq,not_true_eq_false,false_and,or_false,not_false_eq_true,true_and] at hh
          omega)
        (refine⟨?_,rfl⟩);(have e:=kz hlt hno);(simp[e]))
      |(exfalso;simp only[Bool.not_eq_false',Bool.not_eq_true',decide_eq_true_eq,decide_eq_false_iff_not,h95] at*;omega)
    ·have hb:((k:Int)==0)=false:=by simp[hk0]
     go_wp2_with (go_at_call 156;refine(qc _ _).mono ?_;rintro e w' ⟨rfl,rfl⟩)
     all_goals first
      |(refine⟨⟨k+1,by omega,by first|go_num|(simp;done)|(simp;omega),fun j hj=>?_⟩,by simp[intOf];omega⟩
        by_cases e:j=k
        ·subst e
         rw[jN hlt]
         simp only[isLetter,isDigit,Bool.or_eq_true,Bool.and_eq_true,decide_eq_true_eq,ne_eq]
         omega
        ·exact h3 j (by omega))
      |(go_ret
        have hno:okAt s k=false:=by
         (rw[jN hlt]
          refine Bool.eq_false_iff.2 fun hh=>?_
          simp only[isLetter,isDigit,Bool.or_eq_true,Bool.and_eq_true,decide_eq_true_eq,ne_eq,not_true_eq_false,false_and,or_false,not_false_eq_true,true_and] at hh
          omega)
        (refine⟨?_,rfl⟩);(have e:=kz hlt hno);(simp[e]))
      |(exfalso;simp only[Bool.not_eq_false',Bool.not_eq_true',decide_eq_true_eq,decide_eq_false_iff_not,h95] at*;omega)
  ·have e:=nameable_all (s:=s) (fun j hj=>h3 j (by omega))
   clear h3
   go_wp2_with (go_at_call 156;refine(qc _ _).mono ?_;rintro e w' ⟨rfl,rfl⟩)
   ·go_ret
    have hl:s.toList.length=s.size:=uq s
    have h0:s.toList=[]:=by assumption
    rw[h0] at hl
    refine⟨?_,rfl⟩
    have e0:s.size=0:=hl.symm
    simp[e,e0]
   ·go_ret
    have hl:s.toList.length=s.size:=uq s
    have hp:0<s.size:=by
     rcases Nat.eq_zero_or_pos s.size with h|h
     ·rw[h] at hl
      exact absurd (List.eq_nil_of_length_eq_zero hl) (by assumption)
     ·exact h
    have h16:s.size<=16:=by omega
    refine⟨?_,rfl⟩
    have hne:¬s.toList=[]:=by assumption
    simp[e,hp,h16,hne]
   ·go_ret
    have h16:¬s.size<=16:=by omega
    refine⟨?_,rfl⟩
    simp[e,h16]
theorem Kin.alloc{w w':World}(h:Kin w w')(o:Obj):Kin w (w'.alloc o):=by
 have g:=World.grownBy_alloc w' o none
 have s:=g.size
 have s2:=h.size
 exact⟨h.os,h.out,by omega,fun k hk=>(g.block k (by omega) (by simp)).trans (h.block k hk)⟩
theorem Kin.drewN{w w':World}(h:Kin w w')(n:Nat):Kin w (w'.drewN n):=⟨h.os,h.out,h.size,h.block⟩
theorem beq_dec(a b:Int):(a==b)=decide (a=b):=by
 rw[Bool.eq_iff_iff]
 simp
theorem zdW(n:Nd)(hs:n.name.size<=140737488355328)(w:World):Calls Tryz.prog 95 #[.agg n.cells.toArray] w fun e w'=>e= .returned (.bool (fieldsB n))/\Kin w w':=by
 obtain⟨depth,kind,name,num,op,at_⟩:=n
 have hn:=za2 name hs
 simp only[Nd.cells]
 by_cases h1:kind=1
 ·subst h1
  go_enter Tryz.func95,Tryz.ntmps95
  go_wp2_with fail
  go_quiet (fail)
  go_wp2_with fail
  have kW:Kin w ((w.alloc (Obj.cells #[Value.int IntKind.i64 depth,Value.int IntKind.i64 1,Value.string name,Value.int IntKind.i64 num,Value.int IntKind.i64 op,Value.int IntKind.i64 at_] 50)).drewN nq):=((Kin.refl w).alloc _).drewN _
  have c2:((w.alloc (Obj.cells #[Value.int IntKind.i64 depth,Value.int IntKind.i64 1,Value.string name,Value.int IntKind.i64 num,Value.int IntKind.i64 op,Value.int IntKind.i64 at_] 50)).drewN nq).cell? ⟨w.heap.size,2,none⟩=some (.string name):=by simp[go_sem]
  have c3:((w.alloc (Obj.cells #[Value.int IntKind.i64 depth,Value.int IntKind.i64 1,Value.string name,Value.int IntKind.i64 num,Value.int IntKind.i64 op,Value.int IntKind.i64 at_] 50)).drewN nq).cell? ⟨w.heap.size,3,none⟩=some (.int .i64 num):=by simp[go_sem]
  generalize ((w.alloc (Obj.cells #[Value.int IntKind.i64 depth,Value.int IntKind.i64 1,Value.string name,Value.int IntKind.i64 num,Value.int IntKind.i64 op,Value.int IntKind.i64 at_] 50)).drewN nq)=W at kW c2 c3⊢
  go_quiet ((go_at_call 133;exact Calls.quiet_of_same (hn _)))
  go_wp2
  all_goals
   go_ret
   refine⟨?_,kW.drewN _⟩
   simp_all [fieldsB]
   try (first|exact beq_dec _ _|omega|(simp only[beq_dec];rw[Bool.eq_iff_iff];simp;omega))
 ·have hk1:(kind==1)=false:=by simp[h1]
  go_enter Tryz.func95,Tryz.ntmps95
  go_wp2_with fail
  go_quiet (fail)
  go_wp2_with (go_at_call 133;refine(hn _).mono ?_;rintro e w' ⟨rfl,rfl⟩)
  all_goals
   go_ret
   refine⟨?_,((Kin.refl w).alloc _).drewN _⟩
   simp_all [fieldsB]
   try (first|exact beq_dec _ _|omega|(simp only[beq_dec];rw[Bool.eq_iff_iff];simp;omega))
theorem told_nil(w:World):Calls Tryz.prog 22 #[.nilIface] w fun e w'=>e= .returned (.tuple #[.int .i64 0, .int .i64 0, .bool true])/\w'=w:=by
 go_enter Tryz.func22,Tryz.ntmps22
 go_wp2
 go_ret3
 exact⟨rfl,rfl⟩
def xh(w:World):Prop:=w.cell? ⟨2,0,none⟩=some (.iface 163 (.agg #[.pointer (some ⟨10,27,none⟩)]))
theorem xh.kin{w w':World}(h:xh w)(k:Kin w w'):xh w':=(k.cell (World.block_lt_of_cell? w _ h)).trans h
theorem ziT(e:Addr)(w:World)(hg:xh w):Calls Tryz.prog 60 #[.iface 71 (.pointer (some e)), .iface 116 (.pointer (some ⟨w.heap.size,0,none⟩))] (w.alloc (.cells #[.pointer none] 71)) fun ev w'=>ev= .returned (.bool true)/\Kin w w'/\w'.cell? ⟨w.heap.size,0,none⟩=some (.pointer (some e)):=by
 have hlt:2<w.heap.size:=World.block_lt_of_cell? w ⟨2,0,none⟩ hg
 refine(zjC e ⟨w.heap.size,0,none⟩ (.pointer none) (w.alloc (.cells #[.pointer none] 71)) ?_ (by simp) (by simp[go_sem])).mono ?_
 ·rw[World.cell?_alloc_lt _ _ ⟨2,0,none⟩ hlt];exact hg
 ·rintro ev w' ⟨rfl,rfl⟩
  refine⟨rfl,?_,?_⟩
  ·have k1:=(((((Kin.refl w).alloc (.cells #[.pointer none] 71)).alloc (.cells #[.pointer (some ⟨w.heap.size,0,none⟩)] 116)).alloc (.cells #[.pointer (some ⟨10,116,none⟩), .pointer (some ⟨(w.alloc (.cells #[.pointer none] 71)).heap.size,0,none⟩), .int .u64 150] 176)).alloc (.cells #[.pointer (some ⟨10,116,none⟩), .pointer (some ⟨(w.alloc (.cells #[.pointer none] 71)).heap.size,0,none⟩), .int .u64 150] 176)).alloc (.cells #[.pointer (some e)] 71)
   have g:=zo (((((w.alloc (.cells #[.pointer none] 71)).alloc (.cells #[.pointer (some ⟨w.heap.size,0,none⟩)] 116)).alloc (.cells #[.pointer (some ⟨10,116,none⟩), .pointer (some ⟨(w.alloc (.cells #[.pointer none] 71)).heap.size,0,none⟩), .int .u64 150] 176)).alloc (.cells #[.pointer (some ⟨10,116,none⟩), .pointer (some ⟨(w.alloc (.cells #[.pointer none] 71)).heap.size,0,none⟩), .int .u64 150] 176)).alloc (.cells #[.pointer (some e)] 71)) w.heap.size 0 (.pointer (some e))
   have z:=k1.size
   exact⟨k1.os,k1.out,Nat.le_trans k1.size g.size,fun k hk=>(g.block k (by omega) (by simp;omega)).trans (k1.block k hk)⟩
  ·simp[go_sem]
theorem zc1(q:Nat)(k p:Int)(b:Addr)(w:World)(h0:w.cell? ⟨q,0,none⟩=some (.int .i64 k))(h1:w.cell? ⟨q,1,none⟩=some (.int .i64 p))(h2:w.cell? ⟨q,2,none⟩=some (.iface 253 (.pointer (some b))))(hr:w.cell? ⟨0,0,none⟩=some (.iface 253 (.pointer (some b))))(hg:xh w):
 Calls Tryz.prog 22 #[.iface 71 (.pointer (some ⟨q,0,none⟩))] w fun e w'=>e= .returned (.tuple #[.int .i64 k, .int .i64 p, .bool true])/\Kin w w':=by
 obtain⟨i,hi,hcmp⟩:=Option.map_eq_some_iff.1 (show(Tryz.prog.info? 253).map (·.comparable)=some true by kernel_rfl)
 obtain⟨j,hj,hjs⟩:=Option.map_eq_some_iff.1 (show(Tryz.prog.info? 255).map (·.size)=some 1 by kernel_rfl)
 have heq:=fun w=>run_eql_iface_ptr_same (P:=Tryz.prog) w b Tryz.underlying27 Tryz.underlying253 hi hcmp hj
 have HA:=Lib.hid (ziT ⟨q,0,none⟩ w hg)
 have hF:∀w',Kin w w'->w'.cell? ⟨q,0,none⟩=some (.int .i64 k)/\w'.cell? ⟨q,1,none⟩=some (.int .i64 p)/\w'.cell? ⟨q,2,none⟩=some (.iface 253 (.pointer (some b)))/\w'.cell? ⟨0,0,none⟩=some (.iface 253 (.pointer (some b))):=fun w' kk=>
  ⟨(kk.cell (World.block_lt_of_cell? w _ h0)).trans h0,(kk.cell (World.block_lt_of_cell? w _ h1)).trans h1,(kk.cell (World.block_lt_of_cell? w _ h2)).trans h2,(kk.cell (World.block_lt_of_cell? w _ hr)).trans hr⟩
 have HF:=Lib.hid hF
 clear hF h0 h1 h2 hr hg hi hcmp hj hjs
 go_enter Tryz.func22,Tryz.ntmps22
 go_wp2_with (go_at_call 60;with_reducible refine HA.out.mono ?_;rintro e w' ⟨rfl,hk,hc⟩)
 obtain⟨c0,c1,c2,cr⟩:=HF.out w' hk
 have HK:=Lib.hid hk
 clear hk
 go_region
 go_wp2
 go_ret3
 exact⟨rfl,HK.out.drewN _⟩
open Go.ChangeShapes Go.WideShapes Go.ChangeAt Go.RowKit Go.Bsd
def yV:List (String×DataW Unit):=[("math/bits.deBruijn32tab",Rows.laid_math_bits_deBruijn32tab),("math/bits.deBruijn64tab",Rows.laid_math_bits_deBruijn64tab),("internal/strconv.uint64pow10",Rows.laid_internal_strconv_uint64pow10),("strconv.ErrRange",Rows.laid_strconv_ErrRange),("strconv.ErrSyntax",Rows.laid_strconv_ErrSyntax),("winnow/api.ErrReject",Rows.laid_winnow_api_ErrReject)]
def zaJ:List (String×DataW Unit):=[("errors.errorType",Rows.laid_errors_errorType)]
theorem wH:(Rows.parseNestsRow.laid.filter fun x=>x.2.handleName?.isNone)=yV:=by kernel_rfl
theorem wG:(Rows.parseNestsRow.laid.filter fun x=>x.2.handleName?.isSome)=zaJ:=by kernel_rfl
theorem zca{W:World}(h:laidMetH Tryz.prog Rows.parseNestsRow.laid W):laidMet Tryz.prog yV W/\handlesMet Tryz.prog zaJ W:=by
 unfold laidMetH at h
 rw[wH,wG] at h
 exact h
theorem zhg{W:World}(h:handlesMet Tryz.prog zaJ W):xh W:=by
 obtain⟨name,u,ty,e1,e2,e3,e4,e5⟩:=h _ (List.mem_singleton.2 rfl)
 have en:name=[101,114,114,111,114]:=(Option.some.inj e1).symm
 subst en
 obtain rfl:=Option.some.inj ((show(Tryz.prog.cutTypes.find? (·.1== "internal/reflectlite.rtype")).map (·.2)=some 163 by kernel_rfl).symm.trans e2)
 have hm:ty∈(List.range 282).filter fun t=>Tryz.prog.rowNamed t [101,114,114,111,114]:=List.mem_filter.2 ⟨List.mem_range.2 (by rw[<-show Tryz.prog.types.size=282 by kernel_rfl];exact e3),e4⟩
 rw[show((List.range 282).filter fun t=>Tryz.prog.rowNamed t [101,114,114,111,114])=[27] by kernel_rfl] at hm
 obtain rfl:=List.mem_singleton.1 hm
 have hh:typeHandle Tryz.prog 27= .pointer (some ⟨10,27,none⟩):=by kernel_rfl
 rw[hh] at e5
 unfold xh
 simpa using World.var?_cell (show Tryz.prog.globalNamed "errors.errorType" =some 2 by kernel_rfl) e5 0
noncomputable def zcA(os:Os):World:=
 let w0:=World.holding Tryz.prog os ⟨#[],#[],[]⟩
 {w0 with heap:=w0.heap.modify 2 fun
  | .cells _ t fz=> .cells #[.iface 163 (.agg #[.pointer (some ⟨10,27,none⟩)])] t fz
  |o=>o}
noncomputable def jY(os:Os):World:=(zcA os).layVars Tryz.prog yV
theorem uv(os:Os):(jY os).os=os:=World.layVars_os _ _ _
theorem vA:(yV.filter fun x=>(yV.map (·.1)).contains x.1)=yV:=List.filter_eq_self.2 fun x hx=>List.contains_iff_mem.2 (List.mem_map.2 ⟨x,hx,rfl⟩)
theorem zgL:(yV.filter fun x=>!(yV.map (·.1)).contains x.1)=[]:=List.filter_eq_nil_iff.2 fun x hx=>by rw[List.contains_iff_mem.2 (List.mem_map.2 ⟨x,hx,rfl⟩)];simp
theorem vI(os:Os)(args:Array Value):laidMetH Tryz.prog Rows.parseNestsRow.laid ((jY os).forCall (fun _ _=>0) ⟨#[],args,[]⟩).memory:=by
 refine laidMetH_of_parts ?_ ?_
 ·rw[wH]
  have h:laidMet Tryz.prog yV (jY os):=laidMet_layVars (w0:=zcA os) (yV.map (·.1)) [] (by rw[vA];rfl) (by rw[vA];kernel_rfl) (by rw[vA];kernel_rfl) (by rw[zgL];exact LaidIn.none)
  exact h.of_heap (by simp[World.memory,World.forCall,Input.heap])
 ·rw[wG];kernel_rfl
theorem wF{W:World}(hL:laidMetH Tryz.prog Rows.parseNestsRow.laid W):(∀y,y=5\/y=6\/y=7->∃cs T fz,W.heap[y]? =some (.cells cs T fz)/\∀v∈cs,PlainV v)/\
 (∀y,y=8\/y=9->∃b o T fz,W.heap[y]? =some (.cells #[.iface 253 (.pointer (some ⟨b,o,none⟩))] T fz))/\(∃b,W.cell? ⟨0,0,none⟩=some (.iface 253 (.pointer (some b))))/\xh W:=by
 obtain⟨h,hT⟩:=zca hL
 obtain⟨ps,⟨g1,t1,c1,f1,p1,q1,hg1,ht1,hv1,hd1,⟨g2,t2,c2,f2,p2,q2,hg2,ht2,hv2,hd2,⟨g3,t3,c3,f3,p3,q3,hg3,ht3,hv3,hd3,⟨g4,t4,c4,f4,p4,q4,hg4,ht4,hv4,hd4,⟨g5,t5,c5,f5,p5,q5,hg5,ht5,hv5,hd5,⟨g6,t6,c6,f6,p6,q6,hg6,ht6,hv6,hd6,hq6,e6⟩,e5⟩,e4⟩,e3⟩,e2⟩,e1⟩,hnd,hrows⟩:=h
 obtain rfl:=Option.some.inj ((show Tryz.prog.globalNamed "math/bits.deBruijn32tab" =some 6 by kernel_rfl).symm.trans hg1)
 obtain rfl:=Option.some.inj ((show Tryz.prog.globalNamed "math/bits.deBruijn64tab" =some 7 by kernel_rfl).symm.trans hg2)
 obtain rfl:=Option.some.inj ((show Tryz.prog.globalNamed "internal/strconv.uint64pow10" =some 5 by kernel_rfl).symm.trans hg3)
 obtain rfl:=Option.some.inj ((show Tryz.prog.globalNamed "strconv.ErrRange" =some 9 by kernel_rfl).symm.trans hg4)
 obtain rfl:=Option.some.inj ((show Tryz.prog.globalNamed "strconv.ErrSyntax" =some 8 by kernel_rfl).symm.trans hg5)
 obtain rfl:=Option.some.inj ((show Tryz.prog.globalNamed "winnow/api.ErrReject" =some 0 by kernel_rfl).symm.trans hg6)
 obtain rfl:=Option.some.inj ((show(Tryz.prog.globals[9]?).map (·.type)=some 27 by kernel_rfl).symm.trans ht4)
 obtain rfl:=Option.some.inj ((show(Tryz.prog.globals[8]?).map (·.type)=some 27 by kernel_rfl).symm.trans ht5)
 obtain rfl:=Option.some.inj ((show(Tryz.prog.globals[0]?).map (·.type)=some 27 by kernel_rfl).symm.trans ht6)
 have hq6':q6=[]:=hq6
 subst hq6'
 have ok:∀g,MemPlace.cell g 0∈ps->∀u v,W.cell? ⟨g,0,none⟩=some (.iface u v)->Value.okWide Tryz.prog W .any 0 u v:=fun g hm u v hc=>(hrows g 0 hm).2 u v hc
 obtain rfl:=Option.some.inj ((show(Tryz.prog.globals[6]?).map (·.type)=some 245 by kernel_rfl).symm.trans ht1)
 obtain rfl:=Option.some.inj ((show(Tryz.prog.globals[7]?).map (·.type)=some 246 by kernel_rfl).symm.trans ht2)
 obtain rfl:=Option.some.inj ((show(Tryz.prog.globals[5]?).map (·.type)=some 231 by kernel_rfl).symm.trans ht3)
 have size1:∀{n:String} {g:Nat} {cs:Array Value} {fuel:Nat} {d:DataW Unit} {p:List MemPlace},DataW.trod (fun _=>()) Tryz.prog W 0 (fun _=>true) false fuel 27 cs.toList=some (.iface "*errors.errorString" d,p)->cs.size=1:=by
  intro n g cs fuel d p hd
  obtain⟨_,u,v,e,_,_⟩:=iface_of_trod Tryz.underlying27 hd
  have:cs.toList.length=1:=by rw[e];rfl
  simpa using this
 have s4:=size1 (n:= "") (g:=0) hd4
 have s5:=size1 (n:= "") (g:=0) hd5
 have s6:=size1 (n:= "") (g:=0) hd6
 have m9:MemPlace.cell 9 0∈ps:=by subst e1 e2 e3 e4;simp[MemPlace.row,s4]
 have m8:MemPlace.cell 8 0∈ps:=by subst e1 e2 e3 e4 e5;simp[MemPlace.row,s5]
 have m0:MemPlace.cell 0 0∈ps:=by subst e1 e2 e3 e4 e5 e6;simp[MemPlace.row,s6]
 obtain⟨a9,x9,k9,cs9,n9,_,r9⟩:=uS hg4 hv4 hd4 (ok 9 m9)
 obtain⟨a8,x8,k8,cs8,n8,_,r8⟩:=uS hg5 hv5 hd5 (ok 8 m8)
 obtain⟨a0,x0,k0,cs0,n0,w0,r0⟩:=uS hg6 hv6 hd6 (ok 0 m0)
 refine⟨fun y hy=>?_,fun y hy=>?_,⟨a0,k0⟩,zhg hT⟩
 ·rcases hy with rfl|rfl|rfl
  ·exact arr_laid hg3 hv3 Tryz.underlying231 Tryz.underlying217 (by kernel_rfl) (by kernel_rfl) hd3
  ·exact arr_laid hg1 hv1 Tryz.underlying245 Tryz.underlying5 (by kernel_rfl) (by kernel_rfl) hd1
  ·exact arr_laid hg2 hv2 Tryz.underlying246 Tryz.underlying5 (by kernel_rfl) (by kernel_rfl) hd2
 ·rcases hy with rfl|rfl
  ·obtain⟨T,fz,hh⟩:=uF hg5 hv5
   rw[cs8,wQ n8] at hh
   exact⟨_,_,T,fz,hh⟩
  ·obtain⟨T,fz,hh⟩:=uF hg4 hv4
   rw[cs9,wQ n9] at hh
   exact⟨_,_,T,fz,hh⟩
open Go.RowKit
inductive Tr where
 |mk (n:Nd) (ks:List Tr)
inductive NT where
 |row (k:Nat)
 |rest (k:Nat) (left:Tr)
 |unary
 |atom
 |stmt
 |stmts
 |block
 |prog
def opsOf:Nat->List (List UInt8×Int)
 |0=>[([124,124],15)]
 |1=>[([38,38],14)]
 |2=>[([60],8),([60,61],9),([62],10),([62,61],11),([61,61],12),([33,61],13)]
 |3=>[([43],3),([45],4)]
 |_=>[([42],5),([47],6),([37],7)]
def opAt(k:Nat)(l:List Item)(i:Nat):Option Int:=match l[i]? with
 |some t=>if t.kind=2 then (opsOf k).lookup t.text.toList else none
 |none=>none
def andThen{α β:Type}:Option (Res α)->(α->Nat->Option (Res β))->Option (Res β)
 |none,_=>none
 |some (.no p),_=>some (.no p)
 |some (.ok a j),f=>f a j
def wantR(C:Ctx)(s:ByteArray)(i:Nat):Option (Res Unit):=some (if comesB C.l i s then .ok () (i+1) else .no (placeOf C.l C.e i))
def z7(C:Ctx)(i:Nat):Option (Res ByteArray):=some (if namedB C.l i then .ok (textAt C.l i) (i+1) else .no (placeOf C.l C.e i))
def zL(C:Ctx)(i:Nat):Option (Res Int):=some (if numbB C.l i then .ok (numAtT C.l i) (i+1) else .no (placeOf C.l C.e i))
def zv(kind:Int)(name:ByteArray)(num op at_:Int)(ks:List Tr):Tr:= .mk ⟨0,kind,name,num,op,at_⟩ ks
def zD:ByteArray:=⟨#[]⟩
def rd(C:Ctx):Nat->NT->Nat->Option (Res (List Tr))
 |0,_,_=>none
 |f+1, .row k,i=>
  if 5<=k then rd C f .unary i
  else andThen (rd C f (.row (k+1)) i) fun ts j=>match ts with
   |[t]=>rd C f (.rest k t) j
   |_=>none
 |f+1, .rest k left,i=>
  match opAt k C.l i with
  |none=>some (.ok [left] i)
  |some op=>andThen (rd C f (.row (k+1)) (i+1)) fun ts j=>match ts with
   |[t]=>if k=2 then some (.ok [zv 15 zD 0 op (placeOf C.l C.e i) [left,t]] j) else rd C f (.rest k (zv 15 zD 0 op (placeOf C.l C.e i) [left,t])) j
   |_=>none
 |f+1, .unary,i=>
  if comesB C.l i ⟨#[45]⟩ then andThen (rd C f .unary (i+1)) fun ts j=>some (.ok [zv 14 zD 0 1 (placeOf C.l C.e i) ts] j)
  else if comesB C.l i ⟨#[33]⟩ then andThen (rd C f .unary (i+1)) fun ts j=>some (.ok [zv 14 zD 0 2 (placeOf C.l C.e i) ts] j)
  else rd C f .atom i
 |f+1, .atom,i=>
  if comesB C.l i ⟨#[116,114,117,101]⟩ then some (.ok [zv 11 zD 1 0 (placeOf C.l C.e i) []] (i+1))
  else if comesB C.l i ⟨#[102,97,108,115,101]⟩ then some (.ok [zv 11 zD 0 0 (placeOf C.l C.e i) []] (i+1))
  else if comesB C.l i ⟨#[40]⟩ then andThen (rd C f (.row 0) (i+1)) fun ts j=>andThen (wantR C ⟨#[41]⟩ j) fun _ j'=>some (.ok ts j')
  else if namedB C.l i then
   if comesB C.l (i+1) ⟨#[91]⟩ then andThen (rd C f (.row 0) (i+2)) fun ts j=>andThen (wantR C ⟨#[93]⟩ j) fun _ j'=>some (.ok [zv 13 (textAt C.l i) 0 0 (placeOf C.l C.e i) ts] j')
   else some (.ok [zv 12 (textAt C.l i) 0 0 (placeOf C.l C.e i) []] (i+1))
  else andThen (zL C i) fun x j=>some (.ok [zv 10 zD x 0 (placeOf C.l C.e i) []] j)
 |f+1, .stmt,i=>
  if namedB C.l i then
   if comesB C.l (i+1) ⟨#[91]⟩ then
    andThen (rd C f (.row 0) (i+2)) fun ts j=>andThen (wantR C ⟨#[93]⟩ j) fun _ j=>andThen (wantR C ⟨#[58,61]⟩ j) fun _ j=>andThen (rd C f (.row 0) j) fun us j=>
     andThen (wantR C ⟨#[59]⟩ j) fun _ j=>some (.ok [zv 3 (textAt C.l i) 0 0 (placeOf C.l C.e i) (ts++us)] j)
   else
    andThen (wantR C ⟨#[58,61]⟩ (i+1)) fun _ j=>andThen (rd C f (.row 0) j) fun us j=>
     andThen (wantR C ⟨#[59]⟩ j) fun _ j=>some (.ok [zv 2 (textAt C.l i) 0 0 (placeOf C.l C.e i) us] j)
  else if comesB C.l i ⟨#[105,110,112,117,116]⟩ then andThen (z7 C (i+1)) fun s j=>andThen (wantR C ⟨#[59]⟩ j) fun _ j=>some (.ok [zv 4 s 0 0 (placeOf C.l C.e i) []] j)
  else if comesB C.l i ⟨#[97,115,115,101,114,116]⟩ then andThen (rd C f (.row 0) (i+1)) fun ts j=>andThen (wantR C ⟨#[59]⟩ j) fun _ j=>some (.ok [zv 5 zD 0 0 (placeOf C.l C.e i) ts] j)
  else if comesB C.l i ⟨#[115,107,105,112]⟩ then andThen (wantR C ⟨#[59]⟩ (i+1)) fun _ j=>some (.ok [zv 6 zD 0 0 (placeOf C.l C.e i) []] j)
  else if comesB C.l i ⟨#[105,102]⟩ then andThen (rd C f (.row 0) (i+1)) fun ts j=>andThen (rd C f .block j) fun us j=>
   if comesB C.l j ⟨#[101,108,115,101]⟩ then andThen (rd C f .block (j+1)) fun vs j=>some (.ok [zv 7 zD 0 0 (placeOf C.l C.e i) (ts++us++vs)] j)
   else some (.ok [zv 7 zD 0 0 (placeOf C.l C.e i) (ts++us)] j)
  else if comesB C.l i ⟨#[119,104,105,108,101]⟩ then andThen (rd C f (.row 0) (i+1)) fun ts j=>andThen (rd C f .block j) fun us j=>some (.ok [zv 8 zD 0 0 (placeOf C.l C.e i) (ts++us)] j)
  else some (.ok [] i)
 |f+1, .stmts,i=>andThen (rd C f .stmt i) fun ts j=>if ts.isEmpty then some (.ok [] j) else andThen (rd C f .stmts j) fun us j=>some (.ok (ts++us) j)
 |f+1, .block,i=>andThen (wantR C ⟨#[123]⟩ i) fun _ j=>andThen (rd C f .stmts j) fun ts j=>andThen (wantR C ⟨#[125]⟩ j) fun _ j=>some (.ok [zv 9 zD 0 0 (placeOf C.l C.e i) ts] j)
 |f+1, .prog,i=>
  if comesB C.l i ⟨#[118,97,114]⟩ then andThen (z7 C (i+1)) fun s j=>andThen (wantR C ⟨#[59]⟩ j) fun _ j=>andThen (rd C f .prog j) fun us j=>some (.ok (zv 0 s 0 0 (placeOf C.l C.e i) []::us) j)
  else if comesB C.l i ⟨#[97,114,114,97,121]⟩ then andThen (z7 C (i+1)) fun s j=>andThen (wantR C ⟨#[91]⟩ j) fun _ j=>andThen (zL C j) fun x j=>andThen (wantR C ⟨#[93]⟩ j) fun _ j=>
   andThen (wantR C ⟨#[59]⟩ j) fun _ j=>andThen (rd C f .prog j) fun us j=>some (.ok (zv 1 s x 0 (placeOf C.l C.e i) []::us) j)
  else andThen (rd C f .stmts i) fun ts j=>if j<C.l.length then some (.no (placeOf C.l C.e j)) else some (.ok ts j)
inductive TrAt (X:Nat->Prop) (w:World):Nat->Tr->Prop
 |mk (p:Nat) (n:Nd) (ks:List Tr) (b:Option Addr) (cap g:Nat) (q:Nat->Nat) (hp:w.heap[p]? =some (.cells #[.int .i64 n.depth, .int .i64 n.kind, .string n.name, .int .i64 n.num, .int .i64 n.op, .int .i64 n.at_, .slice b ks.length cap] 148 (0,0))) (hpr:¬X p)
  (hb:ks≠[]->b=some ⟨g,0,none⟩) (hgr:ks≠[]->¬X g) (hcap:ks.length<=cap) (hc:∀j t,ks[j]? =some t->w.cell? ⟨g,j,none⟩=some (.pointer (some ⟨q j,0,none⟩))) (hk:∀j t,ks[j]? =some t->TrAt X w (q j) t):TrAt X w p (.mk n ks)
theorem TrAt.lt{X:Nat->Prop}{w:World}{p:Nat}{t:Tr}(h:TrAt X w p t):p<w.heap.size/\¬X p:=by
 cases h with
 |mk _ _ _ _ _ _ _ hp hpr=>exact⟨(Array.getElem?_eq_some_iff.1 hp).1,hpr⟩
theorem TrAt.kept{X:Nat->Prop}{w w':World}(hk:∀k,k<w.heap.size->¬X k->w'.heap[k]? =w.heap[k]?){p:Nat}{t:Tr}(h:TrAt X w p t):TrAt X w' p t:=by
 induction h with
 |mk p n ks b cap g q hp hpr hb hgr hcap hc hkk ih=>
  refine .mk p n ks b cap g q ?_ hpr hb hgr hcap ?_ ih
  ·rw[hk p (Array.getElem?_eq_some_iff.1 hp).1 hpr];exact hp
  ·intro j t hj
   have hne:ks≠[]:=by rintro rfl;simp at hj
   have hl:=World.block_lt_of_cell? w ⟨g,j,none⟩ (hc j t hj)
   exact(World.cell?_of_block (a:=⟨g,j,none⟩) (hk g hl (hgr hne))).trans (hc j t hj)
theorem TrAt.mono{X X':Nat->Prop}(hX:∀k,X' k->X k){w:World}{p:Nat}{t:Tr}(h:TrAt X w p t):TrAt X' w p t:=by
 induction h with
 |mk p n ks b cap g q hp hpr hb hgr hcap hc hkk ih=>exact .mk p n ks b cap g q hp (fun h=>hpr (hX _ h)) hb (fun h h'=>hgr h (hX _ h')) hcap hc ih
theorem TrAt.bound{X:Nat->Prop}{w:World}{p:Nat}{t:Tr}(h:TrAt X w p t):TrAt (fun k=>X k\/w.heap.size<=k) w p t:=by
 induction h with
 |mk p n ks b cap g q hp hpr hb hgr hcap hc hkk ih=>
  refine .mk p n ks b cap g q hp (fun h=>h.elim hpr fun h=>?_) hb (fun hne h=>h.elim (hgr hne) fun h=>?_) hcap hc ih
  ·have:=(Array.getElem?_eq_some_iff.1 hp).1;omega
  ·cases hks:ks with
   |nil=>exact hne hks
   |cons t l=>
    have:=World.block_lt_of_cell? w ⟨g,0,none⟩ (hc 0 t (by rw[hks];rfl))
    simp only at this
    omega
def Old(C:Ctx)(w0:World)(k:Nat):Prop:=k=C.r\/k<w0.heap.size
theorem old_le{C:Ctx}{w w1:World}(h:w.grownBy w1 (some C.r)):∀k,Old C w k->Old C w1 k:=fun k hk=>hk.imp id fun h'=>Nat.lt_of_lt_of_le h' h.size
theorem TrAt.grew{C:Ctx}{w0 w w':World}(hg:w.grownBy w' (some C.r)){p:Nat}{t:Tr}(h:TrAt (Old C w0) w p t):TrAt (Old C w0) w' p t:=
 h.kept fun k hk hx=>hg.block k hk (by simp;rintro rfl;exact hx (.inl rfl))
theorem u229:∃e,Tryz.prog.underlying 229=some (.map 9 e)/\((Tryz.prog.info? e).map fun i=>i.zero)=some (some (.int .i64 0)):=⟨48,by kernel_rfl,by kernel_rfl⟩
theorem u9:Tryz.prog.underlying 9=some .string:=by kernel_rfl
theorem run_checkKey(b:Bool)(s:ByteArray)(w:World):(Instr.checkKey b 10000 9 (.string s)).run Tryz.prog w= .ok () w:=by
 unfold Instr.checkKey
 simp[run_underlying u9]
theorem zid(w:World)(m:Nat)(es:Array MapEntry)(c:Nat)(s:ByteArray)(x:Int)(hm:w.heap[m]? =some (.map es c))(h:Instr.findNow .string (.string s) es.toList 0=some none):
 (Instr.mapUpdate 229 (.map (some m)) (.string s) (.int .i64 x)).run Tryz.prog w= .ok () {w with heap:=w.heap.setIfInBounds m (.map (es.push {key:= .string s,val:= .int .i64 x,born:=c}) (c+1))}:=by
 obtain⟨e,hu,hz⟩:=u229
 have hk:(Instr.findKey 9 (.string s) es.toList).run Tryz.prog w= .ok none w:=by
  unfold Instr.findKey
  simp[run_underlying u9,h]
 unfold Instr.mapUpdate
 simp[run_underlying hu,getObj,Sem.run,hm,run_checkKey,hk,setObj]
theorem zel(w:World)(o o':Obj):({w.alloc o with heap:=(w.alloc o).heap.setIfInBounds w.heap.size o'}:World)=w.alloc o':=by
 have h:(w.heap.push o).setIfInBounds w.heap.size o'=w.heap.push o':=by
  apply Array.ext_getElem?
  intro i
  by_cases hi:i=w.heap.size
  ·subst hi;simp
  ·rw[Array.getElem?_setIfInBounds_ne (Ne.symm hi),Array.getElem?_push,Array.getElem?_push,if_neg hi,if_neg hi]
 show({heap:=(w.heap.push o).setIfInBounds w.heap.size o',tape:=w.tape,drawn:=w.drawn,os:=w.os,output:=w.output}:World)={heap:=w.heap.push o',tape:=w.tape,drawn:=w.drawn,os:=w.os,output:=w.output}
 rw[h]
theorem xb(w:World)(es:Array MapEntry)(c:Nat)(s:ByteArray)(x:Int)(h:Instr.findNow .string (.string s) es.toList 0=some none):
 (Instr.mapUpdate 229 (.map (some w.heap.size)) (.string s) (.int .i64 x)).run Tryz.prog (w.alloc (.map es c))= .ok () (w.alloc (.map (es.push {key:= .string s,val:= .int .i64 x,born:=c}) (c+1))):=by
 rw[zid _ _ es c s x (heap_alloc_new w _) h]
 exact congrArg (Result.ok ()) (zel w _ _)
theorem zgy(w:World)(m:Nat)(es:Array MapEntry)(c:Nat)(s:ByteArray)(r:Option (Nat×Value))(hm:w.heap[m]? =some (.map es c))(h:Instr.findNow .string (.string s) es.toList 0=some r):
 (Instr.lookup 229 (.map (some m)) (.string s) true).run Tryz.prog w= .ok (.tuple #[(r.map (·.2)).getD (.int .i64 0), .bool r.isSome]) w:=by
 obtain⟨e,hu,hz⟩:=u229
 have hk:(Instr.findKey 9 (.string s) es.toList).run Tryz.prog w= .ok r w:=by
  unfold Instr.findKey
  simp[run_underlying u9,h]
 cases hi:Tryz.prog.info? e with
 |none=>rw[hi] at hz;simp at hz
 |some i=>
  rw[hi] at hz
  simp at hz
  unfold Instr.lookup
  cases r<;>simp[run_underlying hu,getObj,Sem.run,hm,run_checkKey,hk,zeroValue,typeInfo,hi,hz]
def ent(x:List UInt8×Int)(n:Nat):MapEntry:={key:= .string ⟨x.1.toArray⟩,val:= .int .i64 x.2,born:=n}
def jh(k:Nat):Array MapEntry:=((opsOf k).zipIdx.map fun x=>ent x.1 x.2).toArray
theorem zcf(s:ByteArray):∀(l:List (List UInt8×Int)) (n i:Nat),∃j,Instr.findNow .string (.string s) ((l.zipIdx n).map fun x=>ent x.1 x.2) i=some ((l.lookup s.toList).map fun v=>(j, .int .i64 v)):=by
 intro l
 induction l with
 |nil=>intro n i;exact⟨0,rfl⟩
 |cons x l ih=>
  intro n i
  obtain⟨j,hj⟩:=ih (n+1) (i+1)
  obtain⟨a,v⟩:=x
  simp only[List.zipIdx_cons,List.map_cons,Instr.findNow,ent,Instr.sameNow]
  by_cases h:s.toList=a
  ·have hb:(s==(⟨a.toArray⟩:ByteArray))=true:=by rw[beq_toListBytes];simp[h]
   rw[hb]
   refine⟨i,?_⟩
   simp[List.lookup,h]
  ·have hb:(s==(⟨a.toArray⟩:ByteArray))=false:=by rw[beq_toListBytes];simp[h]
   rw[hb]
   refine⟨j,?_⟩
   have h':(s.toList==a)=false:=by simp[h]
   simp only[List.lookup,h']
   exact hj
theorem zg0(k:Nat)(w:World)(m c:Nat)(s:ByteArray)(hm:w.heap[m]? =some (.map (jh k) c)):
 (Instr.lookup 229 (.map (some m)) (.string s) true).run Tryz.prog w= .ok (.tuple #[.int .i64 (((opsOf k).lookup s.toList).getD 0), .bool ((opsOf k).lookup s.toList).isSome]) w:=by
 obtain⟨j,hj⟩:=zcf s (opsOf k) 0 0
 rw[zgy w m (jh k) c s _ hm (by simpa [jh] using hj)]
 cases (opsOf k).lookup s.toList<;>rfl
end Go.Proofs.YtonmcakdofbjiaaGreatDoor
