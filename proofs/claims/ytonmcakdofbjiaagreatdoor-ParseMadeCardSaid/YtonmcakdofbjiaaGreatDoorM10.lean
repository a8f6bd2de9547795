/- A part. -/
import Derived.Test.YtonmcakdofbjiaaGreatDoorM4
import Derived.Test.YtonmcakdofbjiaaGreatDoorM9
import Derived.Deep.LoopGhost
import Derived.Deep.DeepCutAuto
import Derived.Deep.CutBlock
import Derived.Deep.CutRange
set_option linter.all false
set_option maxRecDepth 100000
set_option maxHeartbeats 8000000
namespace Go.Proofs.YtonmcakdofbjiaaGreatDoor
open Go.RowKit
theorem zec(s:ByteArray)(i:Nat)(b:Nat)(w:World)(hb:w.cell? ⟨b,0,none⟩=some (.string s))(hi:i<s.size)(hs:s.size<=8796093022207):
 Calls Tryz.prog 152 #[.int .i64 i, .pointer (some ⟨b,0,none⟩)] w fun e w'=>e= .returned (.tuple #[(⟨2,signAt s i,0,i,0,0⟩:Item).v, .bool !(signAt s i).toList.isEmpty])/\Below w.heap.size w w':=zd8 s i b w hb hi hs
theorem ziZ(i:Nat)(w:World):Calls Tryz.prog 154 #[.int .i64 i] w fun e w'=>e= .returned (.tuple #[(⟨0,⟨#[]⟩,0,0,20,i⟩:Item).v, .bool true])/\Below w.heap.size w w':=zd6 i w
def fv(f:FuncId)(b:Nat):Value:= .func (.func f) #[] #[.pointer (some ⟨b,0,none⟩)]
theorem zd4(s:ByteArray)(w:World):
 Calls Tryz.prog 118 #[.string s] w fun e w'=>e= .returned (.slice (some ⟨w.heap.size+1,0,none⟩) 4 4)/\w'=(w.alloc (.cells #[.string s] 9)).alloc (.cells #[fv 145 w.heap.size,fv 150 w.heap.size,fv 152 w.heap.size, .func (.func 154) #[] #[]] 191):=by
 have hmf:∀(fn:Fn) (first cap:Array Value) (w:World),(Instr.makeFunc fn first cap).run Tryz.prog w= .ok (.func fn first cap) w:=fun _ _ _ _=>rfl
 go_enter Tryz.func118,Tryz.ntmps118;go_wp2;go_ret;exact⟨rfl,rfl⟩
def cutF(s:ByteArray):Nat->Nat->List Item
 |0,_=>[]
 |f+1,i=>if i<s.size then (if (itemAt s i).code=0 then itemAt s i::cutF s f (skipTo s (i+(itemAt s i).text.size)) else [itemAt s i]) else []
def pieces(s:ByteArray):List Item:=cutF s (s.size+1) (skipTo s 0)
theorem zfx(s:ByteArray):∀f i,i<=skipF s f i:=by
 intro f;induction f with
 |zero=>intro i;exact Nat.le_refl _
 |succ f ih=>
  intro i;unfold skipF;split
  ·split
   ·exact Nat.le_trans (Nat.le_succ i) (ih (i+1))
   ·split
    ·exact Nat.le_trans (uptoF_ge _ _ _ _) (ih _)
    ·exact Nat.le_refl _
  ·exact Nat.le_refl _
theorem skipTo_ge(s:ByteArray)(i:Nat):i<=skipTo s i:=zfx s _ i
theorem hJ{pred:Int->Bool}{s:ByteArray}{i:Nat}(hi:i<s.size)(h:pred (s[i]).toNat=true):i<upto pred s i:=by
 obtain⟨h1,_,_,h4⟩:=upto_spec pred s i (by omega)
 rcases Nat.lt_or_ge i (upto pred s i) with h'|h'
 ·exact h'
 ·exfalso;have e:upto pred s i=i:=by omega
  rw[e] at h4;rw[h4 hi] at h;cases h
theorem item_pos{s:ByteArray}{i:Nat}(hi:i<s.size)(hc:(itemAt s i).code=0):0<(itemAt s i).text.size/\i+(itemAt s i).text.size<=s.size:=by
 unfold itemAt at hc⊢
 split
 ·rename_i hl;rw[if_pos hl] at hc;unfold wordAt at hc⊢
  split
  ·rename_i h;rw[if_pos h] at hc;simp at hc
  ·have hp:=hJ (pred:=yn) hi (by simp only[letterAt,dif_pos hi] at hl;simp[yn,hl])
   have hu:=(upto_spec yn s i (by omega)).2.1
   simp[ByteArray.size_extract];omega
 ·rename_i hl;rw[if_neg hl] at hc;split
  ·rename_i hd;rw[if_pos hd] at hc;unfold numAt at hc⊢
   split
   ·rename_i h;rw[if_pos h] at hc;simp at hc
   ·have hp:=hJ (pred:=isDigit) hi (by simp only[z7,dif_pos hi] at hd;exact hd)
    have hu:=(upto_spec isDigit s i (by omega)).2.1
    simp[ByteArray.size_extract];omega
  ·rename_i hd;rw[if_neg hd] at hc;split
   ·rename_i h;rw[if_pos h] at hc;simp at hc
   ·rename_i h;unfold signAt at h⊢
    split
    ·rename_i h2;simp[ByteArray.size_extract];omega
    ·rename_i h2;rw[if_neg h2,dif_pos hi] at h;split
     ·simp[ByteArray.size_extract];omega
     ·rename_i h4;rw[if_neg h4] at h;simp at h
theorem passedF(s:ByteArray)(i:Nat)(x:Int)(hx:x=i)(w:World)(hi:i<=s.size)(hs:s.size<=8796093022207):
 Calls Tryz.prog 119 #[.string s, .int .i64 x] w fun e w'=>e= .returned (.int .i64 (skipTo s i))/\w'=w:=by
 subst hx;refine(zcB s i w hi hs).mono ?_;rintro e w' ⟨⟨k,h1,h2,h3,rfl⟩,rfl⟩;rw[show skipTo s i=k from (wI h1 h2 h3 _ (Nat.le_refl _)).2];exact⟨rfl,rfl⟩
theorem gh(s:ByteArray)(i:Nat)(hi:i<=s.size):skipTo s i<=s.size:=by
 have key:∀f i,i<=s.size->skipF s f i<=s.size:=by
  intro f;induction f with
  |zero=>intro i h;exact h
  |succ f ih=>
   intro i h;unfold skipF;split
   ·split
    ·exact ih _ (by omega)
    ·split
     ·exact ih _ (upto_spec isLine s i h).2.1
     ·exact h
   ·exact h
 exact key _ i hi
structure CutI (s:ByteArray) (c K A:Nat) (w0:World) (e1 e2:Value) (w:World) (sent:List Item):Prop where
 chan:w.heap[c]? =some (.chan K (sent.map Item.v).toArray false sent.length 0 false)
 box:w.cell? ⟨A,0,none⟩=some (.string s)
 k0:w.cell? ⟨A+1,0,none⟩=some (fv 145 A)
 k1:w.cell? ⟨A+1,1,none⟩=some (fv 150 A)
 k2:w.cell? ⟨A+1,2,none⟩=some (fv 152 A)
 k3:w.cell? ⟨A+1,3,none⟩=some (.func (.func 154) #[] #[])
 v8:w.cell? ⟨8,0,none⟩=some e1
 v9:w.cell? ⟨9,0,none⟩=some e2
 lt:A+1<w.heap.size
 lt9:9<A
 ltc:c<A
 old:∀y,y<A->y≠c->w.heap[y]? =w0.heap[y]?
theorem CutI.later{s:ByteArray}{c K A:Nat}{w0:World}{e1 e2:Value}{w w':World}{sent:List Item}(h:CutI s c K A w0 e1 e2 w sent){B:Nat}(hb:Below B w w')(hB:w.heap.size<=B):CutI s c K A w0 e1 e2 w' sent:=by
 have l:=h.lt;have l9:=h.lt9;have lc:=h.ltc;have g:∀n o,n<w.heap.size->w'.cell? ⟨n,o,none⟩=w.cell? ⟨n,o,none⟩:=fun n o hn=>hb.cell (p:=⟨n,o,none⟩) (Nat.lt_of_lt_of_le hn hB);exact⟨(hb.block c (by omega)).trans h.chan,(g _ _ (by omega)).trans h.box,(g _ _ (by omega)).trans h.k0,(g _ _ (by omega)).trans h.k1,(g _ _ (by omega)).trans h.k2,(g _ _ (by omega)).trans h.k3,(g _ _ (by omega)).trans h.v8,(g _ _ (by omega)).trans h.v9,Nat.lt_of_lt_of_le l hb.size,l9,lc,fun y hy hyc=>(hb.block y (by omega)).trans (h.old y hy hyc)⟩
theorem jL(w:World)(c K:Nat)(b:Array Value)(cl:Bool)(x r:Nat)(n o:Nat)(h:c≠n):(w.setChan c K b cl x r false).cell? ⟨n,o,none⟩=w.cell? ⟨n,o,none⟩:=by
 unfold World.cell?
 have:(w.setChan c K b cl x r false).heap[n]? =w.heap[n]? :=by
  show(w.heap.setIfInBounds c _)[n]? =_
  rw[Array.getElem?_setIfInBounds_ne h]
 simp[this]
theorem CutI.sends{s:ByteArray}{c K A:Nat}{w0:World}{e1 e2:Value}{w:World}{sent:List Item}(h:CutI s c K A w0 e1 e2 w sent)(x:Item):
 CutI s c K A w0 e1 e2 (w.setChan c K ((sent.map Item.v).toArray.push x.v) false (sent.length+1) 0 false) (sent++[x]):=by
 have l:=h.lt;have l9:=h.lt9;have lc:=h.ltc;have n8:c≠8:=by rintro rfl;have:=h.v8;have:=h.chan;simp_all [World.cell?]
 have n9:c≠9:=by rintro rfl;have:=h.v9;have:=h.chan;simp_all [World.cell?]
 have g:∀n o,c≠n->(w.setChan c K ((sent.map Item.v).toArray.push x.v) false (sent.length+1) 0 false).cell? ⟨n,o,none⟩=w.cell? ⟨n,o,none⟩:=fun n o hn=>jL _ _ _ _ _ _ _ _ _ hn;refine⟨?_,(g _ _ (by omega)).trans h.box,(g _ _ (by omega)).trans h.k0,(g _ _ (by omega)).trans h.k1,(g _ _ (by omega)).trans h.k2,(g _ _ (by omega)).trans h.k3,(g _ _ n8).trans h.v8,(g _ _ n9).trans h.v9,?_,l9,lc,fun y hy hyc=>?_⟩
 ·show(w.heap.setIfInBounds c _)[c]? =_
  rw[Array.getElem?_setIfInBounds_self_of_lt (by omega)]
  simp
 ·show A+1<(w.heap.setIfInBounds c _).size;simpa using l
 ·show(w.heap.setIfInBounds c _)[y]? =_
  rw[Array.getElem?_setIfInBounds_ne (Ne.symm hyc)];exact h.old y hy hyc
open Go.RowKit Go.Bsd
noncomputable def f77c:Code:=(Tryz.f77.body.getD .skip)
noncomputable def yD:Code:=match f77c with| .seq _ y=>y|c=>c
theorem zea(s:ByteArray)(i:Nat)(b:Nat)(w:World)(hb:w.cell? ⟨b,0,none⟩=some (.string s))(hi:i<s.size)(hs:s.size<=8796093022207)(hl:letterAt s i=true):Calls Tryz.prog 145 #[.int .i64 i, .pointer (some ⟨b,0,none⟩)] w fun e w'=>e= .returned (.tuple #[(.agg #[.int .i64 (itemAt s i).kind, .string (itemAt s i).text, .int .i64 (itemAt s i).num, .int .i64 (itemAt s i).pos, .int .i64 (itemAt s i).code, .int .i64 (itemAt s i).place]), .bool true])/\Below w.heap.size w w':=by
 have h:=zee s i b w hb hi hs;rw[hl,if_pos rfl,show wordAt s i=itemAt s i by unfold itemAt;rw[if_pos hl]] at h
 exact h
theorem zf8(s:ByteArray)(i:Nat)(b:Nat)(w:World)(hb:w.cell? ⟨b,0,none⟩=some (.string s))(hi:i<s.size)(hs:s.size<=8796093022207)(hl:letterAt s i=false):Calls Tryz.prog 145 #[.int .i64 i, .pointer (some ⟨b,0,none⟩)] w fun e w'=>e= .returned (.tuple #[(.agg #[.int .i64 0, .string ⟨#[]⟩, .int .i64 0, .int .i64 0, .int .i64 0, .int .i64 0]), .bool false])/\Below w.heap.size w w':=by
 have h:=zee s i b w hb hi hs;rw[hl,if_neg (by simp)] at h
 exact h
theorem zd9(s:ByteArray)(i:Nat)(b:Nat)(w:World)(hb:w.cell? ⟨b,0,none⟩=some (.string s))(hi:i<s.size)(hs:s.size<=8796093022207)(e1 e2:Value)(h8:w.cell? ⟨8,0,none⟩=some e1)(h9:w.cell? ⟨9,0,none⟩=some e2)(he1:∃te pe,e1= .iface te pe)(he2:∃te pe,e2= .iface te pe)(hl:letterAt s i=false)(hd:z7 s i=true):Calls Tryz.prog 150 #[.int .i64 i, .pointer (some ⟨b,0,none⟩)] w fun e w'=>e= .returned (.tuple #[(.agg #[.int .i64 (itemAt s i).kind, .string (itemAt s i).text, .int .i64 (itemAt s i).num, .int .i64 (itemAt s i).pos, .int .i64 (itemAt s i).code, .int .i64 (itemAt s i).place]), .bool true])/\Below w.heap.size w w':=by
 have h:=zed s i b w hb hi hs e1 e2 h8 h9 he1 he2;rw[hd,if_pos rfl,show numAt s i=itemAt s i by unfold itemAt;rw[if_neg (by simp[hl]),if_pos hd]] at h
 exact h
theorem zf7(s:ByteArray)(i:Nat)(b:Nat)(w:World)(hb:w.cell? ⟨b,0,none⟩=some (.string s))(hi:i<s.size)(hs:s.size<=8796093022207)(e1 e2:Value)(h8:w.cell? ⟨8,0,none⟩=some e1)(h9:w.cell? ⟨9,0,none⟩=some e2)(he1:∃te pe,e1= .iface te pe)(he2:∃te pe,e2= .iface te pe)(hd:z7 s i=false):Calls Tryz.prog 150 #[.int .i64 i, .pointer (some ⟨b,0,none⟩)] w fun e w'=>e= .returned (.tuple #[(.agg #[.int .i64 0, .string ⟨#[]⟩, .int .i64 0, .int .i64 0, .int .i64 0, .int .i64 0]), .bool false])/\Below w.heap.size w w':=by
 have h:=zed s i b w hb hi hs e1 e2 h8 h9 he1 he2;rw[hd,if_neg (by simp)] at h
 exact h
theorem zd7(s:ByteArray)(i:Nat)(b:Nat)(w:World)(hb:w.cell? ⟨b,0,none⟩=some (.string s))(hi:i<s.size)(hs:s.size<=8796093022207)(hl:letterAt s i=false)(hd:z7 s i=false)(hg:(signAt s i).toList.isEmpty=false):Calls Tryz.prog 152 #[.int .i64 i, .pointer (some ⟨b,0,none⟩)] w fun e w'=>e= .returned (.tuple #[(.agg #[.int .i64 (itemAt s i).kind, .string (itemAt s i).text, .int .i64 (itemAt s i).num, .int .i64 (itemAt s i).pos, .int .i64 (itemAt s i).code, .int .i64 (itemAt s i).place]), .bool true])/\Below w.heap.size w w':=by
 have h:=zec s i b w hb hi hs;rw[hg,show(⟨2,signAt s i,0,i,0,0⟩:Item)=itemAt s i by unfold itemAt;rw[if_neg (by simp[hl]),if_neg (by simp[hd]),if_neg (by simp[hg])]] at h
 exact h
theorem zf1(s:ByteArray)(i:Nat)(b:Nat)(w:World)(hb:w.cell? ⟨b,0,none⟩=some (.string s))(hi:i<s.size)(hs:s.size<=8796093022207)(hg:(signAt s i).toList.isEmpty=true):Calls Tryz.prog 152 #[.int .i64 i, .pointer (some ⟨b,0,none⟩)] w fun e w'=>e= .returned (.tuple #[(.agg #[.int .i64 2, .string (signAt s i), .int .i64 0, .int .i64 i, .int .i64 0, .int .i64 0]), .bool false])/\Below w.heap.size w w':=by
 have h:=zec s i b w hb hi hs;rw[hg] at h;exact h
theorem zd5(s:ByteArray)(i:Nat)(w:World)(hl:letterAt s i=false)(hd:z7 s i=false)(hg:(signAt s i).toList.isEmpty=true):Calls Tryz.prog 154 #[.int .i64 i] w fun e w'=>e= .returned (.tuple #[(.agg #[.int .i64 (itemAt s i).kind, .string (itemAt s i).text, .int .i64 (itemAt s i).num, .int .i64 (itemAt s i).pos, .int .i64 (itemAt s i).code, .int .i64 (itemAt s i).place]), .bool true])/\Below w.heap.size w w':=by
 have h:=ziZ i w;rw[show(⟨0,⟨#[]⟩,0,0,20,i⟩:Item)=itemAt s i by unfold itemAt;rw[if_neg (by simp[hl]),if_neg (by simp[hd]),if_pos hg]] at h
 exact h
def zjg(s:ByteArray)(i j:Nat):Prop:=(1<=j->letterAt s i=false)/\(2<=j->z7 s i=false)/\(3<=j->(signAt s i).toList.isEmpty=true)
def zj5(w:World)(n:Nat):Prop:=∃x0 x1 x2 x3 x4 x5,Six w n x0 x1 x2 x3 x4 x5
theorem Six.set{w:World}{n:Nat}{x0 x1 x2 x3 x4 x5:Value}(h:Six w n x0 x1 x2 x3 x4 x5)(y0 y1 y2 y3 y4 y5:Value):
 Six ((((((w.setCell ⟨n,0,none⟩ y0).setCell ⟨n,1,none⟩ y1).setCell ⟨n,2,none⟩ y2).setCell ⟨n,3,none⟩ y3).setCell ⟨n,4,none⟩ y4).setCell ⟨n,5,none⟩ y5) n y0 y1 y2 y3 y4 y5:=by
 obtain⟨c0,c1,c2,c3,c4,c5,f0,f1,f2,f3,f4,f5⟩:=h
 constructor<;>simp[go_sem,c0,c1,c2,c3,c4,c5,f0,f1,f2,f3,f4,f5]
theorem xw{wo w w':World}{y0 y1 y2 y3 y4 y5:Value}(hb:Below wo.heap.size wo w)(h1:Below w.heap.size w w')(hz:wo.heap.size<w.heap.size):
 Below wo.heap.size wo ((((((w'.setCell ⟨wo.heap.size,0,none⟩ y0).setCell ⟨wo.heap.size,1,none⟩ y1).setCell ⟨wo.heap.size,2,none⟩ y2).setCell ⟨wo.heap.size,3,none⟩ y3).setCell ⟨wo.heap.size,4,none⟩ y4).setCell ⟨wo.heap.size,5,none⟩ y5):=
 ((((((hb.trans (h1.mono (by omega))).setCell (Nat.le_refl _) _).setCell (Nat.le_refl _) _).setCell (Nat.le_refl _) _).setCell (Nat.le_refl _) _).setCell (Nat.le_refl _) _).setCell (Nat.le_refl _) _
theorem xO{n:Nat}{w w':World}{y0 y1 y2 y3 y4 y5:Value}(h1:Below w.heap.size w w')(hz:n<w.heap.size):
 n<((((((w'.setCell ⟨n,0,none⟩ y0).setCell ⟨n,1,none⟩ y1).setCell ⟨n,2,none⟩ y2).setCell ⟨n,3,none⟩ y3).setCell ⟨n,4,none⟩ y4).setCell ⟨n,5,none⟩ y5).heap.size:=by
 simp;exact Nat.lt_of_lt_of_le hz h1.size
def zjh(s:ByteArray)(c K:Nat)(w0:World)(e:Exit)(a:Act)(w:World):Prop:=
 (e= .normal\/e= .ret)/\a.defers=[]/\(∀y,y<w0.heap.size->y≠c->w.heap[y]? =w0.heap[y]?)/\w.heap[c]? =some (.chan K ((pieces s).map Item.v).toArray false (pieces s).length 0 false)
theorem zgj(s:ByteArray)(c K:Nat)(w:World)(hs:s.size<=8796093022207)(hK:(pieces s).length<K)(e1 e2:Value)(h8:w.cell? ⟨8,0,none⟩=some e1)(h9:w.cell? ⟨9,0,none⟩=some e2)(he1:∃te pe,e1= .iface te pe)(he2:∃te pe,e2= .iface te pe)
 (hc:w.heap[c]? =some (.chan K #[] false 0 0 false)):
 yD.wp Tryz.prog (zjh s c K w) {tmps:= #[.string s, .chan (some c),undef,undef,undef,undef,undef,undef,undef,undef, .chan (some c)]++Array.replicate 35 undef,defers:=[]} w:=by
 have hcs:c<w.heap.size:=by
  rcases Nat.lt_or_ge c w.heap.size with h|h
  ·exact h
  ·rw[Array.getElem?_eq_none h] at hc;cases hc
 have hlt9:9<w.heap.size:=by
  unfold World.cell? at h9
  rcases Nat.lt_or_ge 9 w.heap.size with h|h
  ·exact h
  ·rw[Array.getElem?_eq_none h] at h9;cases h9
 have hI:CutI s c K w.heap.size w e1 e2 ((w.alloc (.cells #[.string s] 9)).alloc (.cells #[fv 145 w.heap.size,fv 150 w.heap.size,fv 152 w.heap.size, .func (.func 154) #[] #[]] 191)) []:=by
  have hb:Below w.heap.size w ((w.alloc (.cells #[.string s] 9)).alloc (.cells #[fv 145 w.heap.size,fv 150 w.heap.size,fv 152 w.heap.size, .func (.func 154) #[] #[]] 191)):=((Below.refl _ w).alloc (Nat.le_refl _) _).alloc (by simp) _
  refine⟨(hb.block c hcs).trans hc,?_,?_,?_,?_,?_,(hb.cell (p:=⟨8,0,none⟩) (by show 8<_;omega)).trans h8,(hb.cell (p:=⟨9,0,none⟩) hlt9).trans h9,by simp,hlt9,hcs,fun y hy _=>hb.block y hy⟩<;>simp[go_sem]
 clear h8 h9 hc;simp only[yD,f77c,Tryz.f77,Option.getD_some];simp only[Array.replicate_succ,Array.replicate_zero,List.push_toArray,List.append_toArray,List.nil_append,List.cons_append];have hP:∀w,Calls Tryz.prog 119 #[.string s, .int .i64 0] w fun e w'=>e= .returned (.int .i64 (skipTo s 0))/\w'=w:=fun w=>passedF s 0 0 rfl w (by omega) hs
 go_wp2_with (first|(go_at_call 118;refine(zd4 s _).mono ?_;rintro e w' ⟨rfl,rfl⟩)|(go_at_call 119;refine(hP _).mono ?_;rintro e w' ⟨rfl,rfl⟩));generalize hA:w.heap.size=A at hI⊢;go_loopg [5] (s.size-skipTo s 0) (fun g x wr=>∃(k:Nat) (sent:List Item),x= .int .i64 k/\k<=s.size/\g=s.size-k/\CutI s c K A w e1 e2 wr sent/\∃f,s.size-k<f/\sent++cutF s f k=pieces s)
 case atStart=>exact⟨_,[],rfl,gh s 0 (by omega),rfl,hI,s.size+1,by omega,rfl⟩
 case round=>
  clear hI;obtain⟨k,sent,rfl,hk,hg,hI,f,hf,hL⟩:=hrel
  obtain⟨wo,rfl⟩:∃wo:World,wo=wr:=⟨_,rfl⟩
  have HI:=Lib.hid hI;have HL:=Lib.hid hL;have HG:=Lib.hid hg;clear hI hL hg;by_cases hlt:k<s.size
  ·go_upto_block 2 with fail
   go_cut [8,9] from 21 to 32 (fun x8 x9 w2=>Below wo.heap.size wo w2/\wo.heap.size<w2.heap.size/\Six w2 wo.heap.size (.int .i64 (itemAt s k).kind) (.string (itemAt s k).text) (.int .i64 (itemAt s k).num) (.int .i64 (itemAt s k).pos) (.int .i64 (itemAt s k).code) (.int .i64 (itemAt s k).place))
   case first=>
    go_wp2_with fail;go_loopg [21] 4 (fun g2 x w2=>∃j:Nat,x= .int .i64 j/\g2=4-j/\j<=3/\zjg s k j/\Below wo.heap.size wo w2/\wo.heap.size<w2.heap.size/\zj5 w2 wo.heap.size)
    case atStart=>exact⟨0,rfl,rfl,by omega,⟨by omega,by omega,by omega⟩,(Below.refl _ _).alloc (Nat.le_refl _) _,by simp,_,_,_,_,_,_,xj _ _ _ _ _ _ _ _⟩
    case round=>
     obtain⟨j,rfl,hg2,hj,hno,hbw,hsz,x0,x1,x2,x3,x4,x5,hsx⟩:=hrel
     have hc:=HI.out.later hbw (Nat.le_refl _);have qb:=hc.box;have qv8:=hc.v8;have qv9:=hc.v9;have HB:=Lib.hid hbw;have HN:=Lib.hid hno;clear hbw hno;have hjj:j=0\/j=1\/j=2\/j=3:=by omega
     rcases hjj with rfl|rfl|rfl|rfl
     ·have qk:wr.cell? ⟨A+1,0,none⟩=some (.func (.func 145) #[] #[.pointer (some ⟨A,0,none⟩)]):=hc.k0;clear hc;by_cases hl:letterAt s k=true
      ·have C:=zea s k A wr qb hlt hs hl;clear hl;go_wp2_with (go_at_call 145;refine(C).mono ?_;rintro e w' ⟨rfl,hb1⟩;have q:=hsx.later hb1 hsz;have z0:=q.c0;have z1:=q.c1;have z2:=q.c2;have z3:=q.c3;have z4:=q.c4;have z5:=q.c5;have g0:=q.f0;have g1:=q.f1;have g2:=q.f2;have g3:=q.f3;have g4:=q.f4;have g5:=q.f5;have QX:=Lib.hid q;clear q);go_meet
       exact⟨xw HB.out hb1 hsz,xO hb1 hsz,QX.out.set _ _ _ _ _ _⟩
      ·have hl':letterAt s k=false:=by simpa using hl
       have HL1:=Lib.hid hl';have C:=zf8 s k A wr qb hlt hs hl';clear hl hl';go_wp2_with (go_at_call 145;refine(C).mono ?_;rintro e w' ⟨rfl,hb1⟩;have q:=hsx.later hb1 hsz;have z0:=q.c0;have z1:=q.c1;have z2:=q.c2;have z3:=q.c3;have z4:=q.c4;have z5:=q.c5;have g0:=q.f0;have g1:=q.f1;have g2:=q.f2;have g3:=q.f3;have g4:=q.f4;have g5:=q.f5;have QX:=Lib.hid q;clear q);go_roundg (4-1)
       case measure=>omega
       case rel=>exact⟨1,rfl,rfl,by omega,⟨fun _=>HL1.out,by omega,by omega⟩,xw HB.out hb1 hsz,xO hb1 hsz,_,_,_,_,_,_,QX.out.set _ _ _ _ _ _⟩
     ·have qk:wr.cell? ⟨A+1,1,none⟩=some (.func (.func 150) #[] #[.pointer (some ⟨A,0,none⟩)]):=hc.k1;clear hc;have hl':=HN.out.1 (by omega)
      have HL1:=Lib.hid hl';by_cases hd:z7 s k=true
      ·have C:=zd9 s k A wr qb hlt hs e1 e2 qv8 qv9 he1 he2 hl' hd;clear hd hl';go_wp2_with (go_at_call 150;refine(C).mono ?_;rintro e w' ⟨rfl,hb1⟩;have q:=hsx.later hb1 hsz;have z0:=q.c0;have z1:=q.c1;have z2:=q.c2;have z3:=q.c3;have z4:=q.c4;have z5:=q.c5;have g0:=q.f0;have g1:=q.f1;have g2:=q.f2;have g3:=q.f3;have g4:=q.f4;have g5:=q.f5;have QX:=Lib.hid q;clear q);go_meet
       exact⟨xw HB.out hb1 hsz,xO hb1 hsz,QX.out.set _ _ _ _ _ _⟩
      ·have hd':z7 s k=false:=by simpa using hd
       have HD1:=Lib.hid hd';have C:=zf7 s k A wr qb hlt hs e1 e2 qv8 qv9 he1 he2 hd';clear hd hd' hl';go_wp2_with (go_at_call 150;refine(C).mono ?_;rintro e w' ⟨rfl,hb1⟩;have q:=hsx.later hb1 hsz;have z0:=q.c0;have z1:=q.c1;have z2:=q.c2;have z3:=q.c3;have z4:=q.c4;have z5:=q.c5;have g0:=q.f0;have g1:=q.f1;have g2:=q.f2;have g3:=q.f3;have g4:=q.f4;have g5:=q.f5;have QX:=Lib.hid q;clear q);go_roundg (4-2)
       case measure=>omega
       case rel=>exact⟨2,rfl,rfl,by omega,⟨fun _=>HL1.out,fun _=>HD1.out,by omega⟩,xw HB.out hb1 hsz,xO hb1 hsz,_,_,_,_,_,_,QX.out.set _ _ _ _ _ _⟩
     ·have qk:wr.cell? ⟨A+1,2,none⟩=some (.func (.func 152) #[] #[.pointer (some ⟨A,0,none⟩)]):=hc.k2;clear hc;have hl':=HN.out.1 (by omega)
      have hd':=HN.out.2.1 (by omega)
      have HL1:=Lib.hid hl';have HD1:=Lib.hid hd';by_cases hg:(signAt s k).toList.isEmpty=true
      ·have HG1:=Lib.hid hg;have C:=zf1 s k A wr qb hlt hs hg;clear hd' hl' hg;go_wp2_with (go_at_call 152;refine(C).mono ?_;rintro e w' ⟨rfl,hb1⟩;have q:=hsx.later hb1 hsz;have z0:=q.c0;have z1:=q.c1;have z2:=q.c2;have z3:=q.c3;have z4:=q.c4;have z5:=q.c5;have g0:=q.f0;have g1:=q.f1;have g2:=q.f2;have g3:=q.f3;have g4:=q.f4;have g5:=q.f5;have QX:=Lib.hid q;clear q);go_roundg (4-3)
       case measure=>omega
       case rel=>exact⟨3,rfl,rfl,by omega,⟨fun _=>HL1.out,fun _=>HD1.out,fun _=>HG1.out⟩,xw HB.out hb1 hsz,xO hb1 hsz,_,_,_,_,_,_,QX.out.set _ _ _ _ _ _⟩
      ·have hg':(signAt s k).toList.isEmpty=false:=by simpa using hg
       have C:=zd7 s k A wr qb hlt hs hl' hd' hg';clear hd' hl' hg hg';go_wp2_with (go_at_call 152;refine(C).mono ?_;rintro e w' ⟨rfl,hb1⟩;have q:=hsx.later hb1 hsz;have z0:=q.c0;have z1:=q.c1;have z2:=q.c2;have z3:=q.c3;have z4:=q.c4;have z5:=q.c5;have g0:=q.f0;have g1:=q.f1;have g2:=q.f2;have g3:=q.f3;have g4:=q.f4;have g5:=q.f5;have QX:=Lib.hid q;clear q);go_meet
       exact⟨xw HB.out hb1 hsz,xO hb1 hsz,QX.out.set _ _ _ _ _ _⟩
     ·have qk:=hc.k3;clear hc;have C:=zd5 s k wr (HN.out.1 (by omega)) (HN.out.2.1 (by omega)) (HN.out.2.2 (by omega))
      go_wp2_with (go_at_call 154;refine(C).mono ?_;rintro e w' ⟨rfl,hb1⟩;have q:=hsx.later hb1 hsz;have z0:=q.c0;have z1:=q.c1;have z2:=q.c2;have z3:=q.c3;have z4:=q.c4;have z5:=q.c5;have g0:=q.f0;have g1:=q.f1;have g2:=q.f2;have g3:=q.f3;have g4:=q.f4;have g5:=q.f5;have QX:=Lib.hid q;clear q);go_meet
      exact⟨xw HB.out hb1 hsz,xO hb1 hsz,QX.out.set _ _ _ _ _ _⟩
   case rest=>
    obtain⟨hbw,hsz,hsx⟩:=hcut
    have hc:=HI.out.later hbw (Nat.le_refl _);have z0:=hsx.c0;have z1:=hsx.c1;have z2:=hsx.c2;have z3:=hsx.c3;have z4:=hsx.c4;have z5:=hsx.c5;have HC:=Lib.hid hc;clear hbw hc;go_upto_region 12 with fail
    have hroom:sent.length<K:=by
     have h:=congrArg List.length HL.out;obtain⟨f',rfl⟩:∃f',f=f'+1:=⟨f-1,by omega⟩
     rw[List.length_append] at h;have:0<(cutF s (f'+1) k).length:=by
      unfold cutF;rw[if_pos hlt]
      split<;>simp
     omega
    refine wE (v0:= .chan (some c)) (v1:=(itemAt s k).v) (v:=(itemAt s k).v) rfl rfl rfl (by simp[go_sem]) (by simp[go_sem,z0,z1,z2,z3,z4,z5,Item.v,itemV]) rfl rfl rfl HC.out.chan (by simpa using hroom) ?_
    clear z0 z1 z2 z3 z4 z5;have hS:=HC.out.sends (itemAt s k);have lA:=HC.out.lt;have lc:=HC.out.ltc;have hbx:=HI.out.lt;have hne:c≠wo.heap.size:=by omega
    have z1:(wc.setChan c K ((sent.map Item.v).toArray.push (itemAt s k).v) false (sent.length+1) 0 false).cell? ⟨wo.heap.size,1,none⟩=some (.string (itemAt s k).text):=(jL _ _ _ _ _ _ _ _ _ hne).trans hsx.c1;have z4:(wc.setChan c K ((sent.map Item.v).toArray.push (itemAt s k).v) false (sent.length+1) 0 false).cell? ⟨wo.heap.size,4,none⟩=some (.int .i64 (itemAt s k).code):=(jL _ _ _ _ _ _ _ _ _ hne).trans hsx.c4;generalize wc.setChan c K ((sent.map Item.v).toArray.push (itemAt s k).v) false (sent.length+1) 0 false=W2 at hS z1 z4⊢;have HS:=Lib.hid hS;clear hsx hS lA lc hbx hne hroom;simp only[Exit.then];by_cases hcode:(itemAt s k).code=0
    ·obtain⟨p1,p2⟩:=item_pos hlt hcode
     have q1:((itemAt s k).code==0)=true:=by simp[hcode]
     have q2:((itemAt s k).code !=0)=false:=by simp[hcode]
     have HCD:=Lib.hid hcode;clear hcode;go_wp2_with (go_at_call 119;refine(passedF s (k+(itemAt s k).text.size) _ (by simp) _ (by omega) hs).mono ?_;rintro e w' ⟨rfl,rfl⟩);have hge:=skipTo_ge s (k+(itemAt s k).text.size);have hle:=gh s (k+(itemAt s k).text.size) p2;have hgk:=HG.out;go_roundg (s.size-skipTo s (k+(itemAt s k).text.size))
     case measure=>omega
     case rel=>
      obtain⟨f',rfl⟩:∃f',f=f'+1:=⟨f-1,by omega⟩
      have hL:=HL.out;unfold cutF at hL;rw[if_pos hlt,if_pos HCD.out] at hL;exact⟨_,sent++[itemAt s k],rfl,hle,rfl,HS.out,f',by omega,by rw[List.append_assoc];exact hL⟩
    ·have q1:((itemAt s k).code==0)=false:=by simp[hcode]
     have q2:((itemAt s k).code !=0)=true:=by simp[hcode]
     have HCD:=Lib.hid hcode;clear hcode;go_wp2;refine⟨.inr rfl,rfl,fun y hy hyc=>HS.out.old y (by omega) hyc,?_⟩
     obtain⟨f',rfl⟩:∃f',f=f'+1:=⟨f-1,by omega⟩
     have hL:=HL.out;unfold cutF at hL;rw[if_pos hlt,if_neg HCD.out] at hL;rw[<-hL];exact HS.out.chan
  ·go_wp2;refine⟨.inl rfl,rfl,fun y hy hyc=>HI.out.old y (by omega) hyc,?_⟩
   obtain⟨f',rfl⟩:∃f',f=f'+1:=⟨f-1,by omega⟩
   have hL:=HL.out;unfold cutF at hL;rw[if_neg hlt,List.append_nil] at hL;rw[<-hL];exact HI.out.chan
end Go.Proofs.YtonmcakdofbjiaaGreatDoor
