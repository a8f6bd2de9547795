/- A part. -/
import Derived.Test.YtonmcakdofbjiaaGreatDoorM14
import Derived.Laws.StructEq
import Derived.Deep.RegionHeld3
import Derived.KernelRfl
import Derived.ArgAppend
set_option linter.all false
set_option maxRecDepth 100000
set_option maxHeartbeats 8000000
namespace Go.Proofs.YtonmcakdofbjiaaGreatDoor
open Go.RowKit
inductive Tr where
 |mk (n:Nd) (ks:List Tr)
inductive NT where
 |row (k:Nat)
 |rest (k:Nat) (left:Tr)
 |unary
 |atom
 |stmt
 |stmts
 |block
 |prog
def opsOf:Nat->List (List UInt8×Int)
 |0=>[([124,124],15)]
 |1=>[([38,38],14)]
 |2=>[([60],8),([60,61],9),([62],10),([62,61],11),([61,61],12),([33,61],13)]
 |3=>[([43],3),([45],4)]
 |_=>[([42],5),([47],6),([37],7)]
def opAt(k:Nat)(l:List Item)(i:Nat):Option Int:=match l[i]? with
 |some t=>if t.kind=2 then (opsOf k).lookup t.text.toList else none
 |none=>none
def andThen{α β:Type}:Option (Res α)->(α->Nat->Option (Res β))->Option (Res β)
 |none,_=>none
 |some (.no p),_=>some (.no p)
 |some (.ok a j),f=>f a j
def zp(C:Ctx)(s:ByteArray)(i:Nat):Option (Res Unit):=some (if zb C.l i s then .ok () (i+1) else .no (placeOf C.l C.e i))
def yU(C:Ctx)(i:Nat):Option (Res ByteArray):=some (if zO C.l i then .ok (textAt C.l i) (i+1) else .no (placeOf C.l C.e i))
def ym(C:Ctx)(i:Nat):Option (Res Int):=some (if xK C.l i then .ok (numAtT C.l i) (i+1) else .no (placeOf C.l C.e i))
def leafT(kind:Int)(name:ByteArray)(num op at_:Int)(ks:List Tr):Tr:= .mk ⟨0,kind,name,num,op,at_⟩ ks
def za:ByteArray:=⟨#[]⟩
def rd(C:Ctx):Nat->NT->Nat->Option (Res (List Tr))
 |0,_,_=>none
 |f+1, .row k,i=>
  if 5<=k then rd C f .unary i
  else andThen (rd C f (.row (k+1)) i) fun ts j=>match ts with
   |[t]=>rd C f (.rest k t) j
   |_=>none
 |f+1, .rest k left,i=>
  match opAt k C.l i with
  |none=>some (.ok [left] i)
  |some op=>andThen (rd C f (.row (k+1)) (i+1)) fun ts j=>match ts with
   |[t]=>if k=2 then some (.ok [leafT 15 za 0 op (placeOf C.l C.e i) [left,t]] j) else rd C f (.rest k (leafT 15 za 0 op (placeOf C.l C.e i) [left,t])) j
   |_=>none
 |f+1, .unary,i=>
  if zb C.l i ⟨#[45]⟩ then andThen (rd C f .unary (i+1)) fun ts j=>some (.ok [leafT 14 za 0 1 (placeOf C.l C.e i) ts] j)
  else if zb C.l i ⟨#[33]⟩ then andThen (rd C f .unary (i+1)) fun ts j=>some (.ok [leafT 14 za 0 2 (placeOf C.l C.e i) ts] j)
  else rd C f .atom i
 |f+1, .atom,i=>
  if zb C.l i ⟨#[116,114,117,101]⟩ then some (.ok [leafT 11 za 1 0 (placeOf C.l C.e i) []] (i+1))
  else if zb C.l i ⟨#[102,97,108,115,101]⟩ then some (.ok [leafT 11 za 0 0 (placeOf C.l C.e i) []] (i+1))
  else if zb C.l i ⟨#[40]⟩ then andThen (rd C f (.row 0) (i+1)) fun ts j=>andThen (zp C ⟨#[41]⟩ j) fun _ j'=>some (.ok ts j')
  else if zO C.l i then
   if zb C.l (i+1) ⟨#[91]⟩ then andThen (rd C f (.row 0) (i+2)) fun ts j=>andThen (zp C ⟨#[93]⟩ j) fun _ j'=>some (.ok [leafT 13 (textAt C.l i) 0 0 (placeOf C.l C.e i) ts] j')
   else some (.ok [leafT 12 (textAt C.l i) 0 0 (placeOf C.l C.e i) []] (i+1))
  else andThen (ym C i) fun x j=>some (.ok [leafT 10 za x 0 (placeOf C.l C.e i) []] j)
 |f+1, .stmt,i=>
  if zO C.l i then
   if zb C.l (i+1) ⟨#[91]⟩ then
    andThen (rd C f (.row 0) (i+2)) fun ts j=>andThen (zp C ⟨#[93]⟩ j) fun _ j=>andThen (zp C ⟨#[58,61]⟩ j) fun _ j=>andThen (rd C f (.row 0) j) fun us j=>
     andThen (zp C ⟨#[59]⟩ j) fun _ j=>some (.ok [leafT 3 (textAt C.l i) 0 0 (placeOf C.l C.e i) (ts++us)] j)
   else
    andThen (zp C ⟨#[58,61]⟩ (i+1)) fun _ j=>andThen (rd C f (.row 0) j) fun us j=>
     andThen (zp C ⟨#[59]⟩ j) fun _ j=>some (.ok [leafT 2 (textAt C.l i) 0 0 (placeOf C.l C.e i) us] j)
  else if zb C.l i ⟨#[105,110,112,117,116]⟩ then andThen (yU C (i+1)) fun s j=>andThen (zp C ⟨#[59]⟩ j) fun _ j=>some (.ok [leafT 4 s 0 0 (placeOf C.l C.e i) []] j)
  else if zb C.l i ⟨#[97,115,115,101,114,116]⟩ then andThen (rd C f (.row 0) (i+1)) fun ts j=>andThen (zp C ⟨#[59]⟩ j) fun _ j=>some (.ok [leafT 5 za 0 0 (placeOf C.l C.e i) ts] j)
  else if zb C.l i ⟨#[115,107,105,112]⟩ then andThen (zp C ⟨#[59]⟩ (i+1)) fun _ j=>some (.ok [leafT 6 za 0 0 (placeOf C.l C.e i) []] j)
  else if zb C.l i ⟨#[105,102]⟩ then andThen (rd C f (.row 0) (i+1)) fun ts j=>andThen (rd C f .block j) fun us j=>
   if zb C.l j ⟨#[101,108,115,101]⟩ then andThen (rd C f .block (j+1)) fun vs j=>some (.ok [leafT 7 za 0 0 (placeOf C.l C.e i) (ts++us++vs)] j)
   else some (.ok [leafT 7 za 0 0 (placeOf C.l C.e i) (ts++us)] j)
  else if zb C.l i ⟨#[119,104,105,108,101]⟩ then andThen (rd C f (.row 0) (i+1)) fun ts j=>andThen (rd C f .block j) fun us j=>some (.ok [leafT 8 za 0 0 (placeOf C.l C.e i) (ts++us)] j)
  else some (.ok [] i)
 |f+1, .stmts,i=>andThen (rd C f .stmt i) fun ts j=>if ts.isEmpty then some (.ok [] j) else andThen (rd C f .stmts j) fun us j=>some (.ok (ts++us) j)
 |f+1, .block,i=>andThen (zp C ⟨#[123]⟩ i) fun _ j=>andThen (rd C f .stmts j) fun ts j=>andThen (zp C ⟨#[125]⟩ j) fun _ j=>some (.ok [leafT 9 za 0 0 (placeOf C.l C.e i) ts] j)
 |f+1, .prog,i=>
  if zb C.l i ⟨#[118,97,114]⟩ then andThen (yU C (i+1)) fun s j=>andThen (zp C ⟨#[59]⟩ j) fun _ j=>andThen (rd C f .prog j) fun us j=>some (.ok (leafT 0 s 0 0 (placeOf C.l C.e i) []::us) j)
  else if zb C.l i ⟨#[97,114,114,97,121]⟩ then andThen (yU C (i+1)) fun s j=>andThen (zp C ⟨#[91]⟩ j) fun _ j=>andThen (ym C j) fun x j=>andThen (zp C ⟨#[93]⟩ j) fun _ j=>
   andThen (zp C ⟨#[59]⟩ j) fun _ j=>andThen (rd C f .prog j) fun us j=>some (.ok (leafT 1 s x 0 (placeOf C.l C.e i) []::us) j)
  else andThen (rd C f .stmts i) fun ts j=>if j<C.l.length then some (.no (placeOf C.l C.e j)) else some (.ok ts j)
inductive TrAt (X:Nat->Prop) (w:World):Nat->Tr->Prop
 |mk (p:Nat) (n:Nd) (ks:List Tr) (b:Option Addr) (cap g:Nat) (q:Nat->Nat) (hp:w.heap[p]? =some (.cells #[.int .i64 n.depth, .int .i64 n.kind, .string n.name, .int .i64 n.num, .int .i64 n.op, .int .i64 n.at_, .slice b ks.length cap] 148 (0,0))) (hpr:¬X p)
  (hb:ks≠[]->b=some ⟨g,0,none⟩) (hgr:ks≠[]->¬X g) (hcap:ks.length<=cap) (hc:∀j t,ks[j]? =some t->w.cell? ⟨g,j,none⟩=some (.pointer (some ⟨q j,0,none⟩))) (hk:∀j t,ks[j]? =some t->TrAt X w (q j) t):TrAt X w p (.mk n ks)
theorem TrAt.lt{X:Nat->Prop}{w:World}{p:Nat}{t:Tr}(h:TrAt X w p t):p<w.heap.size/\¬X p:=by
 cases h with
 |mk _ _ _ _ _ _ _ hp hpr=>exact⟨(Array.getElem?_eq_some_iff.1 hp).1,hpr⟩
theorem TrAt.kept{X:Nat->Prop}{w w':World}(hk:∀k,k<w.heap.size->¬X k->w'.heap[k]? =w.heap[k]?){p:Nat}{t:Tr}(h:TrAt X w p t):TrAt X w' p t:=by
 induction h with
 |mk p n ks b cap g q hp hpr hb hgr hcap hc hkk ih=>
  refine .mk p n ks b cap g q ?_ hpr hb hgr hcap ?_ ih
  ·rw[hk p (Array.getElem?_eq_some_iff.1 hp).1 hpr];exact hp
  ·intro j t hj;have hne:ks≠[]:=by rintro rfl;simp at hj
   have hl:=World.block_lt_of_cell? w ⟨g,j,none⟩ (hc j t hj);exact(World.cell?_of_block (a:=⟨g,j,none⟩) (hk g hl (hgr hne))).trans (hc j t hj)
theorem TrAt.mono{X X':Nat->Prop}(hX:∀k,X' k->X k){w:World}{p:Nat}{t:Tr}(h:TrAt X w p t):TrAt X' w p t:=by
 induction h with
 |mk p n ks b cap g q hp hpr hb hgr hcap hc hkk ih=>exact .mk p n ks b cap g q hp (fun h=>hpr (hX _ h)) hb (fun h h'=>hgr h (hX _ h')) hcap hc ih
theorem TrAt.bound{X:Nat->Prop}{w:World}{p:Nat}{t:Tr}(h:TrAt X w p t):TrAt (fun k=>X k\/w.heap.size<=k) w p t:=by
 induction h with
 |mk p n ks b cap g q hp hpr hb hgr hcap hc hkk ih=>
  refine .mk p n ks b cap g q hp (fun h=>h.elim hpr fun h=>?_) hb (fun hne h=>h.elim (hgr hne) fun h=>?_) hcap hc ih
  ·have:=(Array.getElem?_eq_some_iff.1 hp).1;omega
  ·cases hks:ks with
   |nil=>exact hne hks
   |cons t l=>
    have:=World.block_lt_of_cell? w ⟨g,0,none⟩ (hc 0 t (by rw[hks];rfl))
    simp only at this
    omega
def Old(C:Ctx)(w0:World)(k:Nat):Prop:=k=C.r\/k<w0.heap.size
theorem old_le{C:Ctx}{w w1:World}(h:w.grownBy w1 (some C.r)):∀k,Old C w k->Old C w1 k:=fun k hk=>hk.imp id fun h'=>Nat.lt_of_lt_of_le h' h.size
theorem TrAt.grew{C:Ctx}{w0 w w':World}(hg:w.grownBy w' (some C.r)){p:Nat}{t:Tr}(h:TrAt (Old C w0) w p t):TrAt (Old C w0) w' p t:=
 h.kept fun k hk hx=>hg.block k hk (by simp;rintro rfl;exact hx (.inl rfl))
theorem u229:∃e,Tryz.prog.underlying 229=some (.map 9 e)/\((Tryz.prog.info? e).map fun i=>i.zero)=some (some (.int .i64 0)):=⟨48,by kernel_rfl,by kernel_rfl⟩
theorem u9:Tryz.prog.underlying 9=some .string:=by kernel_rfl
theorem run_checkKey(b:Bool)(s:ByteArray)(w:World):(Instr.checkKey b 10000 9 (.string s)).run Tryz.prog w= .ok () w:=by
 unfold Instr.checkKey;simp[run_underlying u9]
theorem zht(w:World)(m:Nat)(es:Array MapEntry)(c:Nat)(s:ByteArray)(x:Int)(hm:w.heap[m]? =some (.map es c))(h:Instr.findNow .string (.string s) es.toList 0=some none):
 (Instr.mapUpdate 229 (.map (some m)) (.string s) (.int .i64 x)).run Tryz.prog w= .ok () {w with heap:=w.heap.setIfInBounds m (.map (es.push {key:= .string s,val:= .int .i64 x,born:=c}) (c+1))}:=by
 obtain⟨e,hu,hz⟩:=u229
 have hk:(Instr.findKey 9 (.string s) es.toList).run Tryz.prog w= .ok none w:=by
  unfold Instr.findKey;simp[run_underlying u9,h]
 unfold Instr.mapUpdate;simp[run_underlying hu,getObj,Sem.run,hm,run_checkKey,hk,setObj]
theorem zdj(w:World)(o o':Obj):({w.alloc o with heap:=(w.alloc o).heap.setIfInBounds w.heap.size o'}:World)=w.alloc o':=by
 have h:(w.heap.push o).setIfInBounds w.heap.size o'=w.heap.push o':=by
  apply Array.ext_getElem?;intro i;by_cases hi:i=w.heap.size
  ·subst hi;simp
  ·rw[Array.getElem?_setIfInBounds_ne (Ne.symm hi),Array.getElem?_push,Array.getElem?_push,if_neg hi,if_neg hi]
 show({heap:=(w.heap.push o).setIfInBounds w.heap.size o',tape:=w.tape,drawn:=w.drawn,os:=w.os,output:=w.output}:World)={heap:=w.heap.push o',tape:=w.tape,drawn:=w.drawn,os:=w.os,output:=w.output}
 rw[h]
theorem yP(w:World)(es:Array MapEntry)(c:Nat)(s:ByteArray)(x:Int)(h:Instr.findNow .string (.string s) es.toList 0=some none):
 (Instr.mapUpdate 229 (.map (some w.heap.size)) (.string s) (.int .i64 x)).run Tryz.prog (w.alloc (.map es c))= .ok () (w.alloc (.map (es.push {key:= .string s,val:= .int .i64 x,born:=c}) (c+1))):=by
 rw[zht _ _ es c s x (heap_alloc_new w _) h];exact congrArg (Result.ok ()) (zdj w _ _)
theorem zfA(w:World)(m:Nat)(es:Array MapEntry)(c:Nat)(s:ByteArray)(r:Option (Nat×Value))(hm:w.heap[m]? =some (.map es c))(h:Instr.findNow .string (.string s) es.toList 0=some r):
 (Instr.lookup 229 (.map (some m)) (.string s) true).run Tryz.prog w= .ok (.tuple #[(r.map (·.2)).getD (.int .i64 0), .bool r.isSome]) w:=by
 obtain⟨e,hu,hz⟩:=u229
 have hk:(Instr.findKey 9 (.string s) es.toList).run Tryz.prog w= .ok r w:=by
  unfold Instr.findKey;simp[run_underlying u9,h]
 cases hi:Tryz.prog.info? e with
 |none=>rw[hi] at hz;simp at hz
 |some i=>
  rw[hi] at hz;simp at hz;unfold Instr.lookup;cases r<;>simp[run_underlying hu,getObj,Sem.run,hm,run_checkKey,hk,zeroValue,typeInfo,hi,hz]
def ent(x:List UInt8×Int)(n:Nat):MapEntry:={key:= .string ⟨x.1.toArray⟩,val:= .int .i64 x.2,born:=n}
def qX(k:Nat):Array MapEntry:=((opsOf k).zipIdx.map fun x=>ent x.1 x.2).toArray
theorem zbt(s:ByteArray):∀(l:List (List UInt8×Int)) (n i:Nat),∃j,Instr.findNow .string (.string s) ((l.zipIdx n).map fun x=>ent x.1 x.2) i=some ((l.lookup s.toList).map fun v=>(j, .int .i64 v)):=by
 intro l;induction l with
 |nil=>intro n i;exact⟨0,rfl⟩
 |cons x l ih=>
  intro n i;obtain⟨j,hj⟩:=ih (n+1) (i+1)
  obtain⟨a,v⟩:=x
  simp only[List.zipIdx_cons,List.map_cons,Instr.findNow,ent,Instr.sameNow];by_cases h:s.toList=a
  ·have hb:(s==(⟨a.toArray⟩:ByteArray))=true:=by rw[beq_toListBytes];simp[h]
   rw[hb];refine⟨i,?_⟩;simp[List.lookup,h]
  ·have hb:(s==(⟨a.toArray⟩:ByteArray))=false:=by rw[beq_toListBytes];simp[h]
   rw[hb];refine⟨j,?_⟩;have h':(s.toList==a)=false:=by simp[h]
   simp only[List.lookup,h'];exact hj
theorem zfZ(k:Nat)(w:World)(m c:Nat)(s:ByteArray)(hm:w.heap[m]? =some (.map (qX k) c)):
 (Instr.lookup 229 (.map (some m)) (.string s) true).run Tryz.prog w= .ok (.tuple #[.int .i64 (((opsOf k).lookup s.toList).getD 0), .bool ((opsOf k).lookup s.toList).isSome]) w:=by
 obtain⟨j,hj⟩:=zbt s (opsOf k) 0 0
 rw[zfA w m (qX k) c s _ hm (by simpa [qX] using hj)]
 cases (opsOf k).lookup s.toList<;>rfl
def isTree(C:Ctx)(w0:World):List Tr->Value->World->Prop:=fun ts v w'=>∃t p,ts=[t]/\v= .pointer (some ⟨p,0,none⟩)/\TrAt (Old C w0) w' p t
theorem zF{α:Type}{C:Ctx}{F:FuncId}{a:Array Value}{w:World}{p:Int}{val:α->Value->World->Prop}(h:Calls Tryz.prog F a w (zI C w (.no p) val)):Calls Tryz.prog F a w fun e w'=>∃ch,e= .panicked ch/\qJ C w p ch w':=by
 refine h.mono fun e w' he=>?_;cases e with
 |returned v=>obtain⟨_,_,h,_⟩:=he;cases h
 |panicked ch=>obtain⟨q,h,hF⟩:=he;cases h;exact⟨ch,rfl,hF⟩
 |outgrown=>exact he.elim
theorem zD{C:Ctx}{F:FuncId}{a:Array Value}{w:World}{ts:List Tr}{j:Nat}(h:Calls Tryz.prog F a w (zI C w (.ok ts j) (isTree C w))):Calls Tryz.prog F a w fun e w'=>∃t p,ts=[t]/\e= .returned (.pointer (some ⟨p,0,none⟩))/\TrAt (Old C w) w' p t/\Rd C j w'/\Grew C w w':=by
 refine h.mono fun e w' he=>?_;cases e with
 |returned v=>obtain⟨_,_,h,⟨t,p,h1,rfl,h2⟩,h3,h4⟩:=he;cases h;exact⟨t,p,h1,rfl,h2,h3,h4⟩
 |panicked ch=>obtain⟨q,h,hF⟩:=he;cases h
 |outgrown=>exact he.elim
theorem evalT4(a:Act)(n:Nat):a.eval (.tmp n)=a.tmps.getD n undef:=rfl
theorem zep{a:Act}{o:Oper}{n:Nat}{fk:FuncId}{first cap:Array Value}{ts:Array TypeId}{w:World}(hfk:∀args w,(callFunc fk args).run Tryz.prog w= .ok (.enter fk args) w)(ho:o.op= .call {callee:= .value (.tmp n),args:= #[],argTypes:=ts})(h:a.tmps.getD n undef= .func (.func fk) first cap):
 (execOp a.eval o).run Tryz.prog w= .ok (.enter fk (first++cap)) w:=by
 unfold execOp;rw[ho];simp[resolve,evalT4,h,Deferred.ofValue,invoke,hfk]
theorem post_tree{C:Ctx}{w wr:World}{r:Res (List Tr)}{t:Tr}{p j:Nat}(hr:r= .ok [t] j)(hT:TrAt (Old C w) wr p t)(hR:Rd C j wr)(hG:Grew C w wr)(n:Nat):zI C w r (isTree C w) (.returned (.pointer (some ⟨p,0,none⟩))) (wr.drewN n):=
 ⟨[t],j,hr,⟨t,p,rfl,rfl,hT.grew (Grew.drewN wr n)⟩,hR.drewN n,grown_trans hG (Grew.drewN wr n)⟩
theorem yy(C:Ctx)(i:Nat)(w:World)(h:Rd C i w):Calls Tryz.prog 78 #[.pointer (some ⟨C.r,0,none⟩)] w fun x w'=>x= .returned (.int .i64 (placeOf C.l C.e i))/\Rd C i w'/\Grew C w w':=
 (zet C i w h).mono fun e w' ⟨h1,n,h2⟩=>by subst h2;exact⟨h1,h.drewN n,Grew.drewN w n⟩
def zji(C:Ctx)(f k:Nat)(fk:FuncId)(args:Array Value)(Inv:World->Prop):Prop:=
 ∀f',f'<=f->∀i w r,rd C f' (.row (k+1)) i=some r->Rd C i w->Inv w->Calls Tryz.prog fk args w (zI C w r (isTree C w))
def xp(X:Nat->Prop)(w:World)(b:Option Addr)(cap:Nat)(ks:List Tr):Prop:=
 ∃(g:Nat) (q:Nat->Nat),(ks≠[]->b=some ⟨g,0,none⟩)/\(ks≠[]->¬X g)/\ks.length<=cap/\(∀(j:Nat) (t:Tr),ks[j]? =some t->w.cell? ⟨g,j,none⟩=some (.pointer (some ⟨q j,0,none⟩)))/\∀(j:Nat) (t:Tr),ks[j]? =some t->TrAt X w (q j) t
theorem xp.kept{X:Nat->Prop}{w w':World}(hk:∀k,k<w.heap.size->¬X k->w'.heap[k]? =w.heap[k]?){b:Option Addr}{cap:Nat}{ks:List Tr}(h:xp X w b cap ks):xp X w' b cap ks:=by
 obtain⟨g,q,h1,h2,h3,h4,h5⟩:=h
 refine⟨g,q,h1,h2,h3,fun j t hj=>?_,fun j t hj=>(h5 j t hj).kept hk⟩;have hne:ks≠[]:=by rintro rfl;simp at hj
 have hl:=World.block_lt_of_cell? w ⟨g,j,none⟩ (h4 j t hj);exact(World.cell?_of_block (a:=⟨g,j,none⟩) (hk g hl (h2 hne))).trans (h4 j t hj)
theorem xp.grew{C:Ctx}{w0 w w':World}(hg:Grew C w w'){b:Option Addr}{cap:Nat}{ks:List Tr}(h:xp (Old C w0) w b cap ks):xp (Old C w0) w' b cap ks:=
 h.kept fun k hk hx=>hg.block k hk (by simp;rintro rfl;exact hx (.inl rfl))
theorem tr_leaf{C:Ctx}{w0 w:World}(n:Nd){b:Option Addr}{cap:Nat}{ks:List Tr}(h:xp (Old C w0) w b cap ks)(hr:C.r<w.heap.size)(h0:w0.heap.size<=w.heap.size):
 TrAt (Old C w0) ((w.alloc (.cells #[.int .i64 n.depth, .int .i64 n.kind, .string n.name, .int .i64 n.num, .int .i64 n.op, .int .i64 n.at_] 50)).alloc (.cells #[.int .i64 n.depth, .int .i64 n.kind, .string n.name, .int .i64 n.num, .int .i64 n.op, .int .i64 n.at_, .slice b ks.length cap] 148)) (w.heap.size+1) (.mk n ks):=by
 have hg:Grew C w ((w.alloc (.cells #[.int .i64 n.depth, .int .i64 n.kind, .string n.name, .int .i64 n.num, .int .i64 n.op, .int .i64 n.at_] 50)).alloc (.cells #[.int .i64 n.depth, .int .i64 n.kind, .string n.name, .int .i64 n.num, .int .i64 n.op, .int .i64 n.at_, .slice b ks.length cap] 148)):=grown_trans (World.grownBy_alloc _ _ _) (World.grownBy_alloc _ _ _);obtain⟨g,q,h1,h2,h3,h4,h5⟩:=h.grew hg
 refine .mk _ n ks b cap g q ?_ (by unfold Old;omega) h1 h2 h3 h4 h5
 have:=heap_alloc_new (w.alloc (.cells #[.int .i64 n.depth, .int .i64 n.kind, .string n.name, .int .i64 n.num, .int .i64 n.op, .int .i64 n.at_] 50)) (.cells #[.int .i64 n.depth, .int .i64 n.kind, .string n.name, .int .i64 n.num, .int .i64 n.op, .int .i64 n.at_, .slice b ks.length cap] 148)
 simpa using this
theorem uU(X:Nat->Prop)(w:World)(b:Option Addr)(cap:Nat):xp X w b cap []:=⟨0,fun _=>0,fun h=>absurd rfl h,fun h=>absurd rfl h,Nat.zero_le _,fun j t hj=>by simp at hj,fun j t hj=>by simp at hj⟩
theorem zjF{C:Ctx}{w0 w:World}{p:Nat}{t:Tr}(h:TrAt (Old C w0) w p t)(hr:C.r<w.heap.size)(h0:w0.heap.size<=w.heap.size):xp (Old C w0) (w.alloc (.cells #[.pointer (some ⟨p,0,none⟩)] 89)) (some ⟨w.heap.size,0,none⟩) 1 [t]:=by
 have hg:Grew C w (w.alloc (.cells #[.pointer (some ⟨p,0,none⟩)] 89)):=World.grownBy_alloc _ _ _;refine⟨w.heap.size,fun _=>p,fun _=>rfl,fun _=>by unfold Old;omega,Nat.le_refl _,fun j u hj=>?_,fun j u hj=>?_⟩
 ·match j,hj with
  |0,hj=>simp[go_sem]
  |j+1,hj=>simp at hj
 ·match j,hj with
  |0,hj=>simp at hj;subst hj;exact h.grew hg
  |j+1,hj=>simp at hj
theorem zjE{C:Ctx}{w0 w:World}{p p2:Nat}{t t2:Tr}(h:TrAt (Old C w0) w p t)(h2:TrAt (Old C w0) w p2 t2)(hr:C.r<w.heap.size)(h0:w0.heap.size<=w.heap.size):xp (Old C w0) (w.alloc (.cells #[.pointer (some ⟨p,0,none⟩), .pointer (some ⟨p2,0,none⟩)] 89)) (some ⟨w.heap.size,0,none⟩) 2 [t,t2]:=by
 have hg:Grew C w (w.alloc (.cells #[.pointer (some ⟨p,0,none⟩), .pointer (some ⟨p2,0,none⟩)] 89)):=World.grownBy_alloc _ _ _;refine⟨w.heap.size,fun j=>if j=0 then p else p2,fun _=>rfl,fun _=>by unfold Old;omega,Nat.le_refl _,fun j u hj=>?_,fun j u hj=>?_⟩
 ·match j,hj with
  |0,hj=>simp[go_sem]
  |1,hj=>simp[go_sem]
  |j+2,hj=>simp at hj
 ·match j,hj with
  |0,hj=>simp at hj;subst hj;exact h.grew hg
  |1,hj=>simp at hj;subst hj;exact h2.grew hg
  |j+2,hj=>simp at hj
theorem ub{C:Ctx}(w:World)(o1 o2 o3:Obj):Grew C w (((w.alloc o1).alloc o2).alloc o3):=grown_trans (grown_trans (World.grownBy_alloc _ _ _) (World.grownBy_alloc _ _ _)) (World.grownBy_alloc _ _ _)
theorem kj(C:Ctx)(k f f2:Nat)(fk:FuncId)(first cap:Array Value)(m c:Nat)(Inv:World->Prop)(hfk:∀args w,(callFunc fk args).run Tryz.prog w= .ok (.enter fk args) w)(hI:∀w w',Inv w->Grew C w w'->Inv w')
 (hB:zji C f k fk (first++cap) Inv) (hf2:f2<=f) (i:Nat) (w:World) (r:Res (List Tr)) (hr:(andThen (rd C f2 (.row (k+1)) i) fun ts j=>match ts with
  |[t]=>rd C f2 (.rest k t) j
  |_=>none)=some r) (h:Rd C i w) (hw:Inv w) (hm:w.heap[m]? =some (.map (qX k) c)) (hmr:m≠C.r) (b:Bool) (hb:b=decide (k=2)):
 Calls Tryz.prog 168 #[.pointer (some ⟨C.r,0,none⟩), .func (.func fk) first cap, .bool b, .map (some m)] w (zI C w r (isTree C w)):=by
 cases hx:rd C f2 (.row (k+1)) i with
 |none=>rw[hx] at hr;cases hr
 |some x=>
  rw[hx] at hr;have hC:=hB f2 hf2 i w x hx h hw;cases x with
  |no p=>
   simp only[andThen,Option.some.injEq] at hr;subst hr;have hC:=zF hC;clear hx h hw hm;go_enter Tryz.func168,Tryz.ntmps168;go_wp2_with (first|(refine(hC).mono ?_;rintro e w' ⟨ch,rfl,hF⟩));exact⟨rfl,_,rfl,hF⟩
  |ok ts j=>
   obtain⟨t0,rfl⟩:∃t0,ts=[t0]:=by
    cases ts with
    |nil=>simp[andThen] at hr
    |cons t0 l=>cases l with
     |nil=>exact⟨t0,rfl⟩
     |cons _ _=>simp[andThen] at hr
   simp only[andThen] at hr;have hC:=zD hC;have HR:=Lib.hid hr;have HM:=Lib.hid hm;have HI:=Lib.hid hI;have HB:=Lib.hid hB;have HBB:=Lib.hid hb;clear hx hr h hm hI hB hb;go_enter Tryz.func168,Tryz.ntmps168;go_wp2_with (first|(refine(hC).mono ?_;rintro e w' ⟨t,p,hte,rfl,hT,hR,hG⟩));obtain rfl:t0=t:=by simpa using hte
   clear hte hC;have HW:=Lib.hid (HI.out _ _ hw hG);have HT:=Lib.hid hT;have HRd:=Lib.hid hR;have HG:=Lib.hid hG;clear hT hR hG hw;go_loopg [9] f2 (fun g x wr=>∃t p j,x= .pointer (some ⟨p,0,none⟩)/\TrAt (Old C w) wr p t/\Rd C j wr/\Grew C w wr/\Inv wr/\g<=f2/\rd C g (.rest k t) j=some r)
   case atStart=>exact⟨_,_,_,rfl,HT.out,HRd.out,HG.out,HW.out,Nat.le_refl _,HR.out⟩
   case round=>
    clear HT HRd HG HW HR;obtain⟨t,p,j,rfl,hT,hR,hG,hW,hgf,hr⟩:=hrel
    have hnot:¬(j<C.l.length/\∃x,C.l[j]? =some x/\x.kind=2)->opAt k C.l j=none:=by
     intro hn;unfold opAt;cases hx:C.l[j]? with
     |none=>rfl
     |some x=>
      have hk:x.kind≠2:=fun hk=>hn ⟨(List.getElem?_eq_some_iff.1 hx).1,x,hx,hk⟩;simp[hk]
    have hend:opAt k C.l j=none->r= .ok [t] j:=by
     intro hn;cases gk with
     |zero=>cases hr
     |succ g=>
      simp only[rd,hn,Option.some.injEq] at hr;exact hr.symm
    have hs:=hR.ci;have hlen:=hR.len;by_cases hlt:j<C.l.length
    ·obtain⟨g0,cp,q0,hcap,hg0,hxx⟩:=hR.cells hlt
     obtain⟨x,hx⟩:∃x,C.l[j]? =some x:=⟨_,List.getElem?_eq_getElem hlt⟩
     obtain⟨x0,x1,x2,x3⟩:=hxx x hx
     have hdd:decide ((C.l.length:Int)<=(j:Int))=false:=by simp;omega
     by_cases hk:x.kind=2
     ·have hmw:wr.heap[m]? =some (.map (qX k) c):=(hG.block m (Array.getElem?_eq_some_iff.1 HM.out).1 (by simp[hmr])).trans HM.out
      have hlk:∀n,(Instr.lookup 229 (.map (some m)) (.string x.text) true).run Tryz.prog (wr.drewN n)= .ok (.tuple #[.int .i64 (((opsOf k).lookup x.text.toList).getD 0), .bool ((opsOf k).lookup x.text.toList).isSome]) (wr.drewN n):=fun n=>zfZ k (wr.drewN n) m c x.text hmw;rw[hk] at x0;cases hop:(opsOf k).lookup x.text.toList with
      |none=>
       rw[hop] at hlk;simp only[Option.getD_none,Option.isSome_none] at hlk;have hres:=hend (by unfold opAt;rw[hx];simp[hk,hop])
       have HE:=Lib.hid hres;have HT:=Lib.hid hT;have HRd:=Lib.hid hR;have HG:=Lib.hid hG;clear hres hT hR hG hr hW hend hnot hxx hx hk x2 x3 hmw hop;go_wp2_with fail;go_quiet (fail)
       go_wp2_with fail;go_quiet (fail)
       go_wp2_with fail;go_ret;exact post_tree HE.out HT.out HRd.out HG.out _
      |some op=>
       rw[hop] at hlk;simp only[Option.getD_some,Option.isSome_some] at hlk;have hoa:opAt k C.l j=some op:=by unfold opAt;rw[hx];simp[hk,hop]
       have hat:=fun n=>yy C j _ (hR.drewN n);have hpl:placeOf C.l C.e j=x.pos:=by unfold placeOf;rw[hx]
       have hfz:=hR.froz;have HT:=Lib.hid hT;have HRd:=Lib.hid hR;have HG:=Lib.hid hG;have HR:=Lib.hid hr;have HW:=Lib.hid hW;have HO:=Lib.hid hoa;have HP:=Lib.hid hpl;have hltr:=hR.lt;clear hT hR hG hr hW hend hnot hxx hx hk x2 x3 hmw hop hoa hpl;go_wp2_with fail;go_quiet (fail)
       go_wp2_with fail;go_quiet (fail)
       go_upto_region 9 with(go_at_call 78;refine(hat _).mono ?_;rintro e w2 ⟨rfl,hR2,hG2⟩;have c1:=hR2.ci;have cf:=hR2.froz;have cl:=hR2.lt)
       have hRW:=(hR2.next (j:=j+1) hlt).alloc (Obj.cells #[Value.int IntKind.i64 0,Value.int IntKind.i64 15,Value.string {data:= #[]},Value.int IntKind.i64 0,Value.int IntKind.i64 op,Value.int IntKind.i64 (placeOf C.l C.e j)] 50);have hgW:=grown_trans (grown_trans (grown_trans HG.out (Grew.drewN wr _)) hG2) (grown_trans (zB w2 C.r 1 (.int .i64 ((j+1:Nat):Int))) (World.grownBy_alloc _ (Obj.cells #[Value.int IntKind.i64 0,Value.int IntKind.i64 15,Value.string {data:= #[]},Value.int IntKind.i64 0,Value.int IntKind.i64 op,Value.int IntKind.i64 (placeOf C.l C.e j)] 50) (some C.r)));have hgV:=grown_trans (grown_trans (Grew.drewN wr _) hG2) (grown_trans (zB w2 C.r 1 (.int .i64 ((j+1:Nat):Int))) (World.grownBy_alloc _ (Obj.cells #[Value.int IntKind.i64 0,Value.int IntKind.i64 15,Value.string {data:= #[]},Value.int IntKind.i64 0,Value.int IntKind.i64 op,Value.int IntKind.i64 (placeOf C.l C.e j)] 50) (some C.r)));have hTW:=HT.out.grew hgV;have hIW:=HI.out _ _ HW.out hgV;have hD:∀o v,[Value.int IntKind.i64 0,Value.int IntKind.i64 15,Value.string {data:= #[]},Value.int IntKind.i64 0,Value.int IntKind.i64 op,Value.int IntKind.i64 (placeOf C.l C.e j)][o]? =some v->((w2.setCell {block:=C.r,off:=1} (Value.int IntKind.i64 ((j+1:Nat):Int))).alloc (Obj.cells #[Value.int IntKind.i64 0,Value.int IntKind.i64 15,Value.string {data:= #[]},Value.int IntKind.i64 0,Value.int IntKind.i64 op,Value.int IntKind.i64 (placeOf C.l C.e j)] 50)).cell? ⟨w2.heap.size,o,none⟩=some v:=by
        intro o v hv
        match o,hv with
        |0,hv=>simp at hv;subst hv;simp[go_sem]
        |1,hv=>simp at hv;subst hv;simp[go_sem]
        |2,hv=>simp at hv;subst hv;simp[go_sem]
        |3,hv=>simp at hv;subst hv;simp[go_sem]
        |4,hv=>simp at hv;subst hv;simp[go_sem]
        |5,hv=>simp at hv;subst hv;simp[go_sem]
        |o+6,hv=>simp at hv
       have hNr:w2.heap.size≠C.r:=by omega
       have hNW:w2.heap.size<((w2.setCell {block:=C.r,off:=1} (Value.int IntKind.i64 ((j+1:Nat):Int))).alloc (Obj.cells #[Value.int IntKind.i64 0,Value.int IntKind.i64 15,Value.string {data:= #[]},Value.int IntKind.i64 0,Value.int IntKind.i64 op,Value.int IntKind.i64 (placeOf C.l C.e j)] 50)).heap.size:=by simp
       rw[show((↑j:Int)+1)=((j+1:Nat):Int) from rfl];generalize ((w2.setCell {block:=C.r,off:=1} (Value.int IntKind.i64 ((j+1:Nat):Int))).alloc (Obj.cells #[Value.int IntKind.i64 0,Value.int IntKind.i64 15,Value.string {data:= #[]},Value.int IntKind.i64 0,Value.int IntKind.i64 op,Value.int IntKind.i64 (placeOf C.l C.e j)] 50))=W at hRW hgW hgV hTW hIW hD hNW⊢;generalize w2.heap.size=N at hD hNr hNW⊢;clear hgV hG2 hR2 c1 cf cl hlk hat hfz x0 x1 q0 hs hdd;have D0:=hD 0 _ rfl;have D1:=hD 1 _ rfl;have D2:=hD 2 _ rfl;have D3:=hD 3 _ rfl;have D4:=hD 4 _ rfl;have D5:=hD 5 _ rfl;clear hD;have hr:=HR.out;cases gk with
       |zero=>cases hr
       |succ g=>
        simp only[rd,HO.out] at hr;cases hx2:rd C g (.row (k+1)) (j+1) with
        |none=>rw[hx2] at hr;cases hr
        |some y=>
         rw[hx2] at hr;have hC2:=HB.out g (by omega) (j+1) W.drew y hx2 (hRW.drewN 1) (HI.out _ _ hIW (Grew.drewN W 1))
         have HRW:=Lib.hid hRW;have HGW:=Lib.hid hgW;have HTW:=Lib.hid hTW;have HIW:=Lib.hid hIW;have HR2:=Lib.hid hr;clear hRW hgW hTW hIW hr hx2 HR HT HRd HG HW;cases y with
         |no p2=>
          have hC2:=zF hC2;have HR3:r=Res.no p2:=by
           have:=HR2.out
           simp only[andThen,Option.some.injEq] at this;exact this.symm
          have hQ:∀(d:Option Tmp) (v:Value) (c:List PanicEntry) (a:Act) (w':World),bodyPost Tryz.prog Tryz.f168 (zI C w r (isTree C w)) (.panic c) (a.put d v) w'->bodyPost Tryz.prog Tryz.f168 (zI C w r (isTree C w)) (.panic c) a w':=by
           intro d v c a w' h;refine⟨?_,h.2⟩;have h1:=h.1;cases d<;>exact h1
          refine wp_region_held_drew (S:=fun w'=>w'.cell? ⟨N,0,none⟩=some (Value.int IntKind.i64 0)/\w'.cell? ⟨N,1,none⟩=some (Value.int IntKind.i64 15)/\w'.cell? ⟨N,2,none⟩=some (Value.string {data:= #[]})/\w'.cell? ⟨N,3,none⟩=some (Value.int IntKind.i64 0)/\w'.cell? ⟨N,4,none⟩=some (Value.int IntKind.i64 op)/\w'.cell? ⟨N,5,none⟩=some (Value.int IntKind.i64 (placeOf C.l C.e j))) rfl ⟨D0,D1,D2,D3,D4,D5⟩ fun hS=>?_;refine wpAnyH_take (i:=0) (oi:=_) (v:= .agg #[Value.int IntKind.i64 0,Value.int IntKind.i64 15,Value.string {data:= #[]},Value.int IntKind.i64 0,Value.int IntKind.i64 op,Value.int IntKind.i64 (placeOf C.l C.e j)]) rfl (by kernel_rfl) (by kernel_rfl) (by kernel_rfl) (fun c a w'=>hQ _ _ c a w') (.inl ⟨rfl,?_⟩) hS ?_
          ·rintro w' ⟨d0,d1,d2,d3,d4,d5⟩;simp[execOp,evalT4,go_sem,d0,d1,d2,d3,d4,d5]
          refine wpAnyH_take (i:=1) (oi:=_) (v:= .pointer (some ⟨p,0,none⟩)) rfl (by kernel_rfl) (by kernel_rfl) (by kernel_rfl) (fun c a w'=>hQ _ _ c a w') (.inl ⟨rfl,fun w' _=>rfl⟩) hS ?_
          refine wpAnyH_take (i:=2) (oi:=_) (v:= .func (.func fk) first cap) rfl (by kernel_rfl) (by kernel_rfl) (by kernel_rfl) (fun c a w'=>hQ _ _ c a w') (.inl ⟨rfl,fun w' _=>rfl⟩) hS ?_
          refine wpAnyH_ready (rs:=[3]) (by kernel_rfl) (by simp) fun i hi=>?_
          obtain rfl:i=3:=by simpa using hi
          refine .inl ?_;unfold Oper.wp;rw[zep (n:=72) (fk:=fk) (first:=first) (cap:=cap) (ts:= #[]) hfk rfl rfl]
          exact hC2.mono (by rintro e w' ⟨ch,rfl,hF⟩;exact⟨rfl,_,HR3,hF.later (grown_trans HGW.out (Grew.drewN W 1))⟩)
         |ok ts2 j2=>
          have hC2:=zD hC2;have D0d:W.drew.cell? ⟨N,0,none⟩=some (Value.int IntKind.i64 0):=D0;have D1d:W.drew.cell? ⟨N,1,none⟩=some (Value.int IntKind.i64 15):=D1;have D2d:W.drew.cell? ⟨N,2,none⟩=some (Value.string {data:= #[]}):=D2;have D3d:W.drew.cell? ⟨N,3,none⟩=some (Value.int IntKind.i64 0):=D3;have D4d:W.drew.cell? ⟨N,4,none⟩=some (Value.int IntKind.i64 op):=D4;have D5d:W.drew.cell? ⟨N,5,none⟩=some (Value.int IntKind.i64 (placeOf C.l C.e j)):=D5;have hne:some N≠some C.r:=by simp[hNr]
          go_region_held3 (fun w'=>w'.cell? ⟨N,0,none⟩=some (Value.int IntKind.i64 0)/\w'.cell? ⟨N,1,none⟩=some (Value.int IntKind.i64 15)/\w'.cell? ⟨N,2,none⟩=some (Value.string {data:= #[]})/\w'.cell? ⟨N,3,none⟩=some (Value.int IntKind.i64 0)/\w'.cell? ⟨N,4,none⟩=some (Value.int IntKind.i64 op)/\w'.cell? ⟨N,5,none⟩=some (Value.int IntKind.i64 (placeOf C.l C.e j))) (first|exact⟨D0,D1,D2,D3,D4,D5⟩|exact⟨d0,d1,d2,d3,d4,d5⟩|go_keep)
           (first|(go_at_call 80;refine(leaf_any ⟨0,15,⟨#[]⟩,0,op,placeOf C.l C.e j⟩ _ _ _ _).mono ?_;rintro e w4 ⟨rfl,rfl⟩)|(refine(hC2).mono ?_;rintro e w3 ⟨t2,p2,hte,rfl,hT3,hR3,hG3⟩;have d0:=hG3.cell D0d hne;have d1:=hG3.cell D1d hne;have d2:=hG3.cell D2d hne;have d3:=hG3.cell D3d hne;have d4:=hG3.cell D4d hne;have d5:=hG3.cell D5d hne))
          subst hte;have hgA:=grown_trans (Grew.drewN (C:=C) W 1) hG3;have hT1:=HTW.out.grew hgA;have hgC:=grown_trans HGW.out hgA;have hK:=zjE hT1 (hT3.mono (old_le (grown_trans HGW.out (Grew.drewN W 1)))) hR3.lt hgC.size;have hTn:=tr_leaf ⟨0,15,⟨#[]⟩,0,op,placeOf C.l C.e j⟩ hK (by have:=hR3.lt;simp;omega) (by have:=hgC.size;simp;omega)
          have hgB:=ub (C:=C) w3 (Obj.cells #[Value.pointer (some {block:=p,off:=0}),Value.pointer (some {block:=p2,off:=0})] 89) (Obj.cells #[Value.int IntKind.i64 0,Value.int IntKind.i64 15,Value.string {data:= #[]},Value.int IntKind.i64 0,Value.int IntKind.i64 op,Value.int IntKind.i64 (placeOf C.l C.e j)] 50) (Obj.cells #[Value.int IntKind.i64 0,Value.int IntKind.i64 15,Value.string {data:= #[]},Value.int IntKind.i64 0,Value.int IntKind.i64 op,Value.int IntKind.i64 (placeOf C.l C.e j),Value.slice (some {block:=w3.heap.size,off:=0}) 2 2] 148);have hR4:=((hR3.alloc (Obj.cells #[Value.pointer (some {block:=p,off:=0}),Value.pointer (some {block:=p2,off:=0})] 89)).alloc (Obj.cells #[Value.int IntKind.i64 0,Value.int IntKind.i64 15,Value.string {data:= #[]},Value.int IntKind.i64 0,Value.int IntKind.i64 op,Value.int IntKind.i64 (placeOf C.l C.e j)] 50)).alloc (Obj.cells #[Value.int IntKind.i64 0,Value.int IntKind.i64 15,Value.string {data:= #[]},Value.int IntKind.i64 0,Value.int IntKind.i64 op,Value.int IntKind.i64 (placeOf C.l C.e j),Value.slice (some {block:=w3.heap.size,off:=0}) 2 2] 148);have hG4:=grown_trans HGW.out (grown_trans hgA hgB);have hI4:=HI.out _ _ HIW.out (grown_trans hgA hgB);have hsz:(w3.alloc (Obj.cells #[Value.pointer (some {block:=p,off:=0}),Value.pointer (some {block:=p2,off:=0})] 89)).heap.size+1=w3.heap.size+1+1:=by simp
          rw[hsz] at hTn;have hr:=HR2.out;simp only[andThen] at hr;have HT4:=Lib.hid hTn;have HR4:=Lib.hid hR4;have HG4:=Lib.hid hG4;have HI4:=Lib.hid hI4;clear hgC hgA hT1 hK hTn hgB hR4 hG4 hI4 hsz hT3 hR3 hG3 hC2 d0 d1 d2 d3 d4 d5 D0 D1 D2 D3 D4 D5 D0d D1d D2d D3d D4d D5d;by_cases hk2:k=2
          ·rw[if_pos hk2] at hr;have hbt:b=true:=by rw[HBB.out];simp[hk2]
           subst hbt;have HE:=Lib.hid (Option.some.inj hr);clear hr hk2;go_wp2;go_ret;exact post_tree HE.out.symm HT4.out HR4.out HG4.out 0
          ·rw[if_neg hk2] at hr;have hbt:b=false:=by rw[HBB.out];simp[hk2]
           subst hbt;have HE:=Lib.hid hr;clear hr hk2;go_wp2;go_roundg g
           case measure=>omega
           case rel=>exact⟨_,_,_,rfl,HT4.out,HR4.out,HG4.out,HI4.out,by omega,HE.out⟩
     ·have hk1:(x.kind==2)=false:=by simp[hk]
      have hk2:(x.kind !=2)=true:=by simp[hk]
      have hres:=hend (hnot fun⟨_,y,hy,hy2⟩=>hk (by rw[hx] at hy;cases hy;exact hy2))
      have HE:=Lib.hid hres;have HT:=Lib.hid hT;have HRd:=Lib.hid hR;have HG:=Lib.hid hG;clear hres hT hR hG hr hW hend hnot hxx hx hk x1 x2 x3;go_wp2_with fail;go_quiet (fail)
      go_wp2_with fail;go_ret;exact post_tree HE.out HT.out HRd.out HG.out _
    ·have hdd:decide ((C.l.length:Int)<=(j:Int))=true:=by simp;omega
     have hres:=hend (hnot fun⟨h,_⟩=>hlt h);obtain⟨⟨b0,cp,g0,q0,_,hcap,_,_⟩,_⟩:=id hR
     have HE:=Lib.hid hres;have HT:=Lib.hid hT;have HRd:=Lib.hid hR;have HG:=Lib.hid hG;clear hres hT hR hG hr hW hend hnot;go_wp2_with fail;go_quiet (fail)
     go_wp2_with fail;go_ret;exact post_tree HE.out HT.out HRd.out HG.out _
def pre(k n:Nat):Array MapEntry:=(((opsOf k).zipIdx.map fun x=>ent x.1 x.2).take n).toArray
def Box(C:Ctx)(bx:Nat)(w:World):Prop:=w.cell? ⟨bx,0,none⟩=some (.pointer (some ⟨C.r,0,none⟩))/\bx≠C.r
theorem Box.grew{C:Ctx}{bx:Nat}(w w':World)(h:Box C bx w)(hg:Grew C w w'):Box C bx w':=⟨hg.cell h.1 (by simp[h.2]),h.2⟩
structure Exprs (C:Ctx) (f:Nat):Prop where
 expr:∀i w r,rd C f (.row 0) i=some r->Rd C i w->Calls Tryz.prog 157 #[.pointer (some ⟨C.r,0,none⟩)] w (zI C w r (isTree C w))
 r1:∀i w r bx,rd C f (.row 1) i=some r->Rd C i w->Box C bx w->Calls Tryz.prog 169 #[.pointer (some ⟨bx,0,none⟩)] w (zI C w r (isTree C w))
 r2:∀i w r bx,rd C f (.row 2) i=some r->Rd C i w->Box C bx w->Calls Tryz.prog 170 #[.pointer (some ⟨bx,0,none⟩)] w (zI C w r (isTree C w))
 r3:∀i w r bx,rd C f (.row 3) i=some r->Rd C i w->Box C bx w->Calls Tryz.prog 171 #[.pointer (some ⟨bx,0,none⟩)] w (zI C w r (isTree C w))
 r4:∀i w r bx,rd C f (.row 4) i=some r->Rd C i w->Box C bx w->Calls Tryz.prog 172 #[.pointer (some ⟨bx,0,none⟩)] w (zI C w r (isTree C w))
 r5:∀i w r,rd C f (.row 5) i=some r->Rd C i w->Calls Tryz.prog 173 #[.pointer (some ⟨C.r,0,none⟩)] w (zI C w r (isTree C w))
 unary:∀i w r,rd C f .unary i=some r->Rd C i w->Calls Tryz.prog 173 #[.pointer (some ⟨C.r,0,none⟩)] w (zI C w r (isTree C w))
 atom:∀i w r,rd C f .atom i=some r->Rd C i w->Calls Tryz.prog 181 #[.pointer (some ⟨C.r,0,none⟩)] w (zI C w r (isTree C w))
theorem zcW(C:Ctx):Exprs C 0:=by
 constructor<;>(intros;rename_i h;first|exact absurd ‹rd C 0 _ _=some _› (by simp[rd]))
theorem xk(k:Nat)(w:World):(Instr.makeMap 229 none).run Tryz.prog w= .ok (.map (some w.heap.size)) (w.alloc (.map (pre k 0) 0)):=rfl
theorem yO{f:FuncId}{fn:Func}(hf:Tryz.prog.funcs[f]? =some fn)(hn:(fn.name== "runtime.NumGoroutine")=false)(hb:fn.body.isNone=false)(args:Array Value)(w:World):(callFunc f args).run Tryz.prog w= .ok (.enter f args) w:=by
 have hn':¬fn.name= "runtime.NumGoroutine" :=by simpa using hn
 have hb':¬fn.body=none:=by intro e;rw[e] at hb;cases hb
 simp[callFunc,hf,hn',hb']
theorem cf169(args:Array Value)(w:World):(callFunc 169 args).run Tryz.prog w= .ok (.enter 169 args) w:=yO Tryz.func169 (by kernel_rfl) (by kernel_rfl) args w
theorem zjP(args:Array Value)(w:World):(callFunc 170 args).run Tryz.prog w= .ok (.enter 170 args) w:=yO Tryz.func170 (by kernel_rfl) (by kernel_rfl) args w
theorem zjO(args:Array Value)(w:World):(callFunc 171 args).run Tryz.prog w= .ok (.enter 171 args) w:=yO Tryz.func171 (by kernel_rfl) (by kernel_rfl) args w
theorem zjN(args:Array Value)(w:World):(callFunc 172 args).run Tryz.prog w= .ok (.enter 172 args) w:=yO Tryz.func172 (by kernel_rfl) (by kernel_rfl) args w
theorem zjM(args:Array Value)(w:World):(callFunc 173 args).run Tryz.prog w= .ok (.enter 173 args) w:=yO Tryz.func173 (by kernel_rfl) (by kernel_rfl) args w
theorem zhU(w:World):(Instr.mapUpdate 229 (.map (some w.heap.size)) (.string {data:= #[124,124]}) (.int .i64 15)).run Tryz.prog (w.alloc (.map (pre 0 0) 0))= .ok () (w.alloc (.map (pre 0 1) 1)):=yP w (pre 0 0) 0 ⟨#[124,124]⟩ 15 (by rfl)
theorem zhT(w:World):(Instr.mapUpdate 229 (.map (some w.heap.size)) (.string {data:= #[38,38]}) (.int .i64 14)).run Tryz.prog (w.alloc (.map (pre 1 0) 0))= .ok () (w.alloc (.map (pre 1 1) 1)):=yP w (pre 1 0) 0 ⟨#[38,38]⟩ 14 (by rfl)
theorem zhS(w:World):(Instr.mapUpdate 229 (.map (some w.heap.size)) (.string {data:= #[60]}) (.int .i64 8)).run Tryz.prog (w.alloc (.map (pre 2 0) 0))= .ok () (w.alloc (.map (pre 2 1) 1)):=yP w (pre 2 0) 0 ⟨#[60]⟩ 8 (by rfl)
theorem zhR(w:World):(Instr.mapUpdate 229 (.map (some w.heap.size)) (.string {data:= #[60,61]}) (.int .i64 9)).run Tryz.prog (w.alloc (.map (pre 2 1) 1))= .ok () (w.alloc (.map (pre 2 2) 2)):=yP w (pre 2 1) 1 ⟨#[60,61]⟩ 9 (by rfl)
theorem zhQ(w:World):(Instr.mapUpdate 229 (.map (some w.heap.size)) (.string {data:= #[62]}) (.int .i64 10)).run Tryz.prog (w.alloc (.map (pre 2 2) 2))= .ok () (w.alloc (.map (pre 2 3) 3)):=yP w (pre 2 2) 2 ⟨#[62]⟩ 10 (by rfl)
theorem zhP(w:World):(Instr.mapUpdate 229 (.map (some w.heap.size)) (.string {data:= #[62,61]}) (.int .i64 11)).run Tryz.prog (w.alloc (.map (pre 2 3) 3))= .ok () (w.alloc (.map (pre 2 4) 4)):=yP w (pre 2 3) 3 ⟨#[62,61]⟩ 11 (by rfl)
theorem zhO(w:World):(Instr.mapUpdate 229 (.map (some w.heap.size)) (.string {data:= #[61,61]}) (.int .i64 12)).run Tryz.prog (w.alloc (.map (pre 2 4) 4))= .ok () (w.alloc (.map (pre 2 5) 5)):=yP w (pre 2 4) 4 ⟨#[61,61]⟩ 12 (by rfl)
theorem zhN(w:World):(Instr.mapUpdate 229 (.map (some w.heap.size)) (.string {data:= #[33,61]}) (.int .i64 13)).run Tryz.prog (w.alloc (.map (pre 2 5) 5))= .ok () (w.alloc (.map (pre 2 6) 6)):=yP w (pre 2 5) 5 ⟨#[33,61]⟩ 13 (by rfl)
theorem zhM(w:World):(Instr.mapUpdate 229 (.map (some w.heap.size)) (.string {data:= #[43]}) (.int .i64 3)).run Tryz.prog (w.alloc (.map (pre 3 0) 0))= .ok () (w.alloc (.map (pre 3 1) 1)):=yP w (pre 3 0) 0 ⟨#[43]⟩ 3 (by rfl)
theorem zhL(w:World):(Instr.mapUpdate 229 (.map (some w.heap.size)) (.string {data:= #[45]}) (.int .i64 4)).run Tryz.prog (w.alloc (.map (pre 3 1) 1))= .ok () (w.alloc (.map (pre 3 2) 2)):=yP w (pre 3 1) 1 ⟨#[45]⟩ 4 (by rfl)
theorem zhK(w:World):(Instr.mapUpdate 229 (.map (some w.heap.size)) (.string {data:= #[42]}) (.int .i64 5)).run Tryz.prog (w.alloc (.map (pre 4 0) 0))= .ok () (w.alloc (.map (pre 4 1) 1)):=yP w (pre 4 0) 0 ⟨#[42]⟩ 5 (by rfl)
theorem zhJ(w:World):(Instr.mapUpdate 229 (.map (some w.heap.size)) (.string {data:= #[47]}) (.int .i64 6)).run Tryz.prog (w.alloc (.map (pre 4 1) 1))= .ok () (w.alloc (.map (pre 4 2) 2)):=yP w (pre 4 1) 1 ⟨#[47]⟩ 6 (by rfl)
theorem zhI(w:World):(Instr.mapUpdate 229 (.map (some w.heap.size)) (.string {data:= #[37]}) (.int .i64 7)).run Tryz.prog (w.alloc (.map (pre 4 2) 2))= .ok () (w.alloc (.map (pre 4 3) 3)):=yP w (pre 4 2) 2 ⟨#[37]⟩ 7 (by rfl)
theorem zho(C:Ctx)(n:Nat)(ih:∀f,f<=n->Exprs C f)(i:Nat)(w:World)(r:Res (List Tr))(bx:Nat)(hr:rd C (n+1) (.row 1) i=some r)(h:Rd C i w)(hb:Box C bx w):Calls Tryz.prog 169 #[.pointer (some ⟨bx,0,none⟩)] w (zI C w r (isTree C w)):=by
 have hrow:∀(m:Nat) (W:World),Grew C w W->W.heap[m]? =some (.map (qX 1) 1)->m≠C.r->Rd C i W->Calls Tryz.prog 168 #[.pointer (some ⟨C.r,0,none⟩), .func (.func 170) #[] #[.pointer (some ⟨bx,0,none⟩)], .bool false, .map (some m)] W (zI C W r (isTree C W)):=fun m W hg hm hmr hR=>
  kj C 1 n n 170 #[] #[.pointer (some ⟨bx,0,none⟩)] m 1 (Box C bx) zjP (fun w w' h hg=>Box.grew w w' h hg) (fun f' hf' i w r hr hR hB=>(ih f' hf').r2 i w r bx hr hR hB) (Nat.le_refl _) i W r (by have h1:=hr;simp only[rd,show ¬5<=1 from by omega,if_false] at h1;exact h1) hR (hb.grew _ _ hg) hm hmr _ (by decide)
 have hmk:=xk 1;have g0:=zhT;have q0:=hb.1;have hlt:=h.lt;have HRd:=Lib.hid h;clear hr h ih;cases r with
 |no p=>
  have hrow:=fun m W a b c d=>zF (hrow m W a b c d);go_enter Tryz.func169,Tryz.ntmps169;go_wp2_with (go_at_call 168;refine(hrow _ _ (World.grownBy_alloc w _ _) (heap_alloc_new w _) (by omega) (HRd.out.alloc _)).mono ?_;rintro e w' ⟨ch,rfl,hF⟩);exact⟨rfl,_,rfl,hF.later (World.grownBy_alloc w _ _)⟩
 |ok ts j=>
  have hrow:=fun m W a b c d=>zD (hrow m W a b c d);go_enter Tryz.func169,Tryz.ntmps169;go_wp2_with (go_at_call 168;refine(hrow _ _ (World.grownBy_alloc w _ _) (heap_alloc_new w _) (by omega) (HRd.out.alloc _)).mono ?_;rintro e w' ⟨t,p,rfl,rfl,hT,hR,hG⟩);go_ret;exact post_tree rfl (hT.mono (old_le (World.grownBy_alloc w _ _))) hR (grown_trans (World.grownBy_alloc w _ _) hG) 0
theorem step_r2(C:Ctx)(n:Nat)(ih:∀f,f<=n->Exprs C f)(i:Nat)(w:World)(r:Res (List Tr))(bx:Nat)(hr:rd C (n+1) (.row 2) i=some r)(h:Rd C i w)(hb:Box C bx w):Calls Tryz.prog 170 #[.pointer (some ⟨bx,0,none⟩)] w (zI C w r (isTree C w)):=by
 have hrow:∀(m:Nat) (W:World),Grew C w W->W.heap[m]? =some (.map (qX 2) 6)->m≠C.r->Rd C i W->Calls Tryz.prog 168 #[.pointer (some ⟨C.r,0,none⟩), .func (.func 171) #[] #[.pointer (some ⟨bx,0,none⟩)], .bool true, .map (some m)] W (zI C W r (isTree C W)):=fun m W hg hm hmr hR=>
  kj C 2 n n 171 #[] #[.pointer (some ⟨bx,0,none⟩)] m 6 (Box C bx) zjO (fun w w' h hg=>Box.grew w w' h hg) (fun f' hf' i w r hr hR hB=>(ih f' hf').r3 i w r bx hr hR hB) (Nat.le_refl _) i W r (by have h1:=hr;simp only[rd,show ¬5<=2 from by omega,if_false] at h1;exact h1) hR (hb.grew _ _ hg) hm hmr _ (by decide)
 have hmk:=xk 2;have g0:=zhS;have g1:=zhR;have g2:=zhQ;have g3:=zhP;have g4:=zhO;have g5:=zhN;have q0:=hb.1;have hlt:=h.lt;have HRd:=Lib.hid h;clear hr h ih;cases r with
 |no p=>
  have hrow:=fun m W a b c d=>zF (hrow m W a b c d);go_enter Tryz.func170,Tryz.ntmps170;go_wp2_with (go_at_call 168;refine(hrow _ _ (World.grownBy_alloc w _ _) (heap_alloc_new w _) (by omega) (HRd.out.alloc _)).mono ?_;rintro e w' ⟨ch,rfl,hF⟩);exact⟨rfl,_,rfl,hF.later (World.grownBy_alloc w _ _)⟩
 |ok ts j=>
  have hrow:=fun m W a b c d=>zD (hrow m W a b c d);go_enter Tryz.func170,Tryz.ntmps170;go_wp2_with (go_at_call 168;refine(hrow _ _ (World.grownBy_alloc w _ _) (heap_alloc_new w _) (by omega) (HRd.out.alloc _)).mono ?_;rintro e w' ⟨t,p,rfl,rfl,hT,hR,hG⟩);go_ret;exact post_tree rfl (hT.mono (old_le (World.grownBy_alloc w _ _))) hR (grown_trans (World.grownBy_alloc w _ _) hG) 0
theorem step_r3(C:Ctx)(n:Nat)(ih:∀f,f<=n->Exprs C f)(i:Nat)(w:World)(r:Res (List Tr))(bx:Nat)(hr:rd C (n+1) (.row 3) i=some r)(h:Rd C i w)(hb:Box C bx w):Calls Tryz.prog 171 #[.pointer (some ⟨bx,0,none⟩)] w (zI C w r (isTree C w)):=by
 have hrow:∀(m:Nat) (W:World),Grew C w W->W.heap[m]? =some (.map (qX 3) 2)->m≠C.r->Rd C i W->Calls Tryz.prog 168 #[.pointer (some ⟨C.r,0,none⟩), .func (.func 172) #[] #[.pointer (some ⟨bx,0,none⟩)], .bool false, .map (some m)] W (zI C W r (isTree C W)):=fun m W hg hm hmr hR=>
  kj C 3 n n 172 #[] #[.pointer (some ⟨bx,0,none⟩)] m 2 (Box C bx) zjN (fun w w' h hg=>Box.grew w w' h hg) (fun f' hf' i w r hr hR hB=>(ih f' hf').r4 i w r bx hr hR hB) (Nat.le_refl _) i W r (by have h1:=hr;simp only[rd,show ¬5<=3 from by omega,if_false] at h1;exact h1) hR (hb.grew _ _ hg) hm hmr _ (by decide)
 have hmk:=xk 3;have g0:=zhM;have g1:=zhL;have q0:=hb.1;have hlt:=h.lt;have HRd:=Lib.hid h;clear hr h ih;cases r with
 |no p=>
  have hrow:=fun m W a b c d=>zF (hrow m W a b c d);go_enter Tryz.func171,Tryz.ntmps171;go_wp2_with (go_at_call 168;refine(hrow _ _ (World.grownBy_alloc w _ _) (heap_alloc_new w _) (by omega) (HRd.out.alloc _)).mono ?_;rintro e w' ⟨ch,rfl,hF⟩);exact⟨rfl,_,rfl,hF.later (World.grownBy_alloc w _ _)⟩
 |ok ts j=>
  have hrow:=fun m W a b c d=>zD (hrow m W a b c d);go_enter Tryz.func171,Tryz.ntmps171;go_wp2_with (go_at_call 168;refine(hrow _ _ (World.grownBy_alloc w _ _) (heap_alloc_new w _) (by omega) (HRd.out.alloc _)).mono ?_;rintro e w' ⟨t,p,rfl,rfl,hT,hR,hG⟩);go_ret;exact post_tree rfl (hT.mono (old_le (World.grownBy_alloc w _ _))) hR (grown_trans (World.grownBy_alloc w _ _) hG) 0
theorem step_r4(C:Ctx)(n:Nat)(ih:∀f,f<=n->Exprs C f)(i:Nat)(w:World)(r:Res (List Tr))(bx:Nat)(hr:rd C (n+1) (.row 4) i=some r)(h:Rd C i w)(hb:Box C bx w):Calls Tryz.prog 172 #[.pointer (some ⟨bx,0,none⟩)] w (zI C w r (isTree C w)):=by
 have hrow:∀(m:Nat) (W:World),Grew C w W->W.heap[m]? =some (.map (qX 4) 3)->m≠C.r->Rd C i W->Calls Tryz.prog 168 #[.pointer (some ⟨C.r,0,none⟩), .func (.func 173) #[.pointer (some ⟨C.r,0,none⟩)] #[], .bool false, .map (some m)] W (zI C W r (isTree C W)):=fun m W hg hm hmr hR=>
  kj C 4 n n 173 #[.pointer (some ⟨C.r,0,none⟩)] #[] m 3 (fun _=>True) zjM (fun _ _ _ _=>trivial) (fun f' hf' i w r hr hR _=>(ih f' hf').r5 i w r hr hR) (Nat.le_refl _) i W r (by have h1:=hr;simp only[rd,show ¬5<=4 from by omega,if_false] at h1;exact h1) hR trivial hm hmr _ (by decide)
 have hmk:=xk 4;have g0:=zhK;have g1:=zhJ;have g2:=zhI;have q0:=hb.1;have hlt:=h.lt;have HRd:=Lib.hid h;clear hr h ih;cases r with
 |no p=>
  have hrow:=fun m W a b c d=>zF (hrow m W a b c d);go_enter Tryz.func172,Tryz.ntmps172;go_wp2_with (go_at_call 168;refine(hrow _ _ (World.grownBy_alloc w _ _) (heap_alloc_new w _) (by omega) (HRd.out.alloc _)).mono ?_;rintro e w' ⟨ch,rfl,hF⟩);exact⟨rfl,_,rfl,hF.later (World.grownBy_alloc w _ _)⟩
 |ok ts j=>
  have hrow:=fun m W a b c d=>zD (hrow m W a b c d);go_enter Tryz.func172,Tryz.ntmps172;go_wp2_with (go_at_call 168;refine(hrow _ _ (World.grownBy_alloc w _ _) (heap_alloc_new w _) (by omega) (HRd.out.alloc _)).mono ?_;rintro e w' ⟨t,p,rfl,rfl,hT,hR,hG⟩);go_ret;exact post_tree rfl (hT.mono (old_le (World.grownBy_alloc w _ _))) hR (grown_trans (World.grownBy_alloc w _ _) hG) 0
theorem skip_not(C:Ctx)(i:Nat)(s:ByteArray)(w:World)(h:Rd C i w)(hc:zb C.l i s=false):Calls Tryz.prog 79 #[.pointer (some ⟨C.r,0,none⟩), .string s] w fun x w'=>x= .returned (.bool false)/\Rd C i w'/\Grew C w w':=
 (skip_no C i s w h hc).mono fun e w' ⟨h1,n,h2⟩=>by subst h2;exact⟨h1,h.drewN n,Grew.drewN w n⟩
theorem zaq(C:Ctx)(i:Nat)(w:World)(h:Rd C i w):Calls Tryz.prog 121 #[.pointer (some ⟨C.r,0,none⟩)] w fun x w'=>x= .returned (.bool (zO C.l i))/\Rd C i w'/\Grew C w w':=
 (vn C i w h).mono fun e w' ⟨h1,n,h2⟩=>by subst h2;exact⟨h1,h.drewN n,Grew.drewN w n⟩
theorem named_yes(C:Ctx)(i:Nat)(w:World)(h:Rd C i w)(hc:zO C.l i=true):Calls Tryz.prog 121 #[.pointer (some ⟨C.r,0,none⟩)] w fun x w'=>x= .returned (.bool true)/\Rd C i w'/\Grew C w w':=by
 have:=zaq C i w h
 rw[hc] at this;exact this
theorem named_not(C:Ctx)(i:Nat)(w:World)(h:Rd C i w)(hc:zO C.l i=false):Calls Tryz.prog 121 #[.pointer (some ⟨C.r,0,none⟩)] w fun x w'=>x= .returned (.bool false)/\Rd C i w'/\Grew C w w':=by
 have:=zaq C i w h
 rw[hc] at this;exact this
theorem grew_alloc2{C:Ctx}(w:World)(o1 o2:Obj):Grew C w ((w.alloc o1).alloc o2):=grown_trans (World.grownBy_alloc _ _ _) (World.grownBy_alloc _ _ _)
theorem post_leaf0{C:Ctx}{w w1:World}{r:Res (List Tr)}{j:Nat}(n:Nd)(hr:r= .ok [.mk n []] j)(hR:Rd C j w1)(hG:Grew C w w1)(b:Option Addr)(cap:Nat):
 zI C w r (isTree C w) (.returned (.pointer (some ⟨w1.heap.size+1,0,none⟩))) ((w1.alloc (.cells #[.int .i64 n.depth, .int .i64 n.kind, .string n.name, .int .i64 n.num, .int .i64 n.op, .int .i64 n.at_] 50)).alloc (.cells #[.int .i64 n.depth, .int .i64 n.kind, .string n.name, .int .i64 n.num, .int .i64 n.op, .int .i64 n.at_, .slice b 0 cap] 148)):=
 ⟨_,j,hr,⟨_,_,rfl,rfl,tr_leaf n (uU _ w1 b cap) hR.lt hG.size⟩,(hR.alloc _).alloc _,grown_trans hG (grew_alloc2 _ _ _)⟩
theorem post_leaf1{C:Ctx}{w w1:World}{r:Res (List Tr)}{j p:Nat}{t:Tr}(n:Nd)(hr:r= .ok [.mk n [t]] j)(hT:TrAt (Old C w) w1 p t)(hR:Rd C j w1)(hG:Grew C w w1):
 zI C w r (isTree C w) (.returned (.pointer (some ⟨w1.heap.size+1+1,0,none⟩))) (((w1.alloc (.cells #[.pointer (some ⟨p,0,none⟩)] 89)).alloc (.cells #[.int .i64 n.depth, .int .i64 n.kind, .string n.name, .int .i64 n.num, .int .i64 n.op, .int .i64 n.at_] 50)).alloc (.cells #[.int .i64 n.depth, .int .i64 n.kind, .string n.name, .int .i64 n.num, .int .i64 n.op, .int .i64 n.at_, .slice (some ⟨w1.heap.size,0,none⟩) 1 1] 148)):=by
 have h:=tr_leaf n (zjF hT hR.lt hG.size) (by have:=hR.lt;simp;omega) (by have:=hG.size;simp;omega)
 have hsz:(w1.alloc (.cells #[.pointer (some ⟨p,0,none⟩)] 89)).heap.size+1=w1.heap.size+1+1:=by simp
 rw[hsz] at h;exact⟨_,j,hr,⟨_,_,rfl,rfl,h⟩,((hR.alloc _).alloc _).alloc _,grown_trans hG (ub _ _ _ _)⟩
theorem want_any(C:Ctx)(i:Nat)(s:ByteArray)(w:World)(h:Rd C i w)(hc:zb C.l i s=true):Calls Tryz.prog 82 #[.pointer (some ⟨C.r,0,none⟩), .slice (some ⟨w.heap.size,0,none⟩) 1 1] (w.alloc (.cells #[.string s] 9)) fun x w'=>x= .returned (.tuple #[])/\Rd C (i+1) w'/\Grew C w w':=
 (ze9 C i s w.heap.size _ (h.alloc _) (by simp[go_sem]) hc).mono fun e w' ⟨h1,h2,h3⟩=>⟨h1,h2,grown_trans (World.grownBy_alloc _ _ _) h3⟩
theorem want_not(C:Ctx)(i:Nat)(s:ByteArray)(w:World)(h:Rd C i w)(hc:zb C.l i s=false):Calls Tryz.prog 82 #[.pointer (some ⟨C.r,0,none⟩), .slice (some ⟨w.heap.size,0,none⟩) 1 1] (w.alloc (.cells #[.string s] 9)) fun x w'=>∃ch,x= .panicked ch/\qJ C w (placeOf C.l C.e i) ch w':=
 (zhe C i s w.heap.size _ (h.alloc _) (by simp[go_sem]) hc).mono fun e w' ⟨ch,h1,h2⟩=>⟨ch,h1,h2.later (World.grownBy_alloc _ _ _)⟩
theorem zci(C:Ctx)(n:Nat)(ih:∀f,f<=n->Exprs C f)(i:Nat)(w:World)(r:Res (List Tr))(hr:rd C (n+1) .unary i=some r)(h:Rd C i w):Calls Tryz.prog 173 #[.pointer (some ⟨C.r,0,none⟩)] w (zI C w r (isTree C w)):=by
 have hU:=(ih n (Nat.le_refl _)).unary;have hA:=(ih n (Nat.le_refl _)).atom;have hlt:=h.lt;clear ih;simp only[rd] at hr;by_cases c1:zb C.l i ⟨#[45]⟩=true
 ·rw[if_pos c1] at hr;cases hx:rd C n .unary (i+1) with
  |none=>rw[hx] at hr;cases hr
  |some x=>
   rw[hx] at hr;have hS:=fun W a=>hU (i+1) W x hx a;clear hx hU hA;cases x with
   |no p=>
    obtain rfl:Res.no p=r:=by simpa only [andThen,Option.some.injEq] using hr
    have hS:=fun W a=>zF (hS W a);clear hr;go_enter Tryz.func173,Tryz.ntmps173;go_wp2_with (first|(go_at_call 78;with_reducible refine(yy C i _ (by assumption)).mono ?_;rintro e w1 ⟨rfl,hR1,hG1⟩)|(go_at_call 79;with_reducible refine(skip_yes C i ⟨#[45]⟩ _ (by assumption) c1).mono ?_;rintro e w2 ⟨rfl,hR2,hG2⟩)|(go_at_call 173;with_reducible refine(hS _ (by assumption)).mono ?_;rintro e w3 ⟨ch,rfl,hF⟩));exact⟨rfl,_,rfl,hF.later (grown_trans hG1 hG2)⟩
   |ok ts j=>
    have HE:=Lib.hid (Option.some.inj hr);have hS:=fun W a=>zD (hS W a);clear hr;go_enter Tryz.func173,Tryz.ntmps173;go_wp2_with (first|(go_at_call 78;with_reducible refine(yy C i _ (by assumption)).mono ?_;rintro e w1 ⟨rfl,hR1,hG1⟩)|(go_at_call 79;with_reducible refine(skip_yes C i ⟨#[45]⟩ _ (by assumption) c1).mono ?_;rintro e w2 ⟨rfl,hR2,hG2⟩)|(go_at_call 173;with_reducible refine(hS _ (by assumption)).mono ?_;rintro e w3 ⟨t3,p3,ht3,rfl,hT3,hR3,hG3⟩)|(go_at_call 80;with_reducible refine(leaf_any ⟨0,14,⟨#[]⟩,0,1,placeOf C.l C.e i⟩ _ _ _ _).mono ?_;rintro e wl ⟨rfl,rfl⟩));subst ht3;go_ret;exact post_leaf1 ⟨0,14,⟨#[]⟩,0,1,placeOf C.l C.e i⟩ HE.out.symm (hT3.mono (old_le (grown_trans hG1 hG2))) hR3 (grown_trans hG1 (grown_trans hG2 hG3))
 ·rw[if_neg c1] at hr;have d1:zb C.l i ⟨#[45]⟩=false:=by simpa using c1
  clear c1;by_cases c2:zb C.l i ⟨#[33]⟩=true
  ·rw[if_pos c2] at hr;cases hx:rd C n .unary (i+1) with
   |none=>rw[hx] at hr;cases hr
   |some x=>
    rw[hx] at hr;have hS:=fun W a=>hU (i+1) W x hx a;clear hx hU hA;cases x with
    |no p=>
     obtain rfl:Res.no p=r:=by simpa only [andThen,Option.some.injEq] using hr
     have hS:=fun W a=>zF (hS W a);clear hr;go_enter Tryz.func173,Tryz.ntmps173;go_wp2_with (first|(go_at_call 78;with_reducible refine(yy C i _ (by assumption)).mono ?_;rintro e w1 ⟨rfl,hR1,hG1⟩)|(go_at_call 79;with_reducible refine(skip_not C i ⟨#[45]⟩ _ (by assumption) d1).mono ?_;rintro e w2 ⟨rfl,hR2,hG2⟩)|(go_at_call 79;with_reducible refine(skip_yes C i ⟨#[33]⟩ _ (by assumption) c2).mono ?_;rintro e w3 ⟨rfl,hR3,hG3⟩)|(go_at_call 173;with_reducible refine(hS _ (by assumption)).mono ?_;rintro e w4 ⟨ch,rfl,hF⟩));exact⟨rfl,_,rfl,hF.later (grown_trans hG1 (grown_trans hG2 hG3))⟩
    |ok ts j=>
     have HE:=Lib.hid (Option.some.inj hr);have hS:=fun W a=>zD (hS W a);clear hr;go_enter Tryz.func173,Tryz.ntmps173;go_wp2_with (first|(go_at_call 78;with_reducible refine(yy C i _ (by assumption)).mono ?_;rintro e w1 ⟨rfl,hR1,hG1⟩)|(go_at_call 79;with_reducible refine(skip_not C i ⟨#[45]⟩ _ (by assumption) d1).mono ?_;rintro e w2 ⟨rfl,hR2,hG2⟩)|(go_at_call 79;with_reducible refine(skip_yes C i ⟨#[33]⟩ _ (by assumption) c2).mono ?_;rintro e w3 ⟨rfl,hR3,hG3⟩)|(go_at_call 173;with_reducible refine(hS _ (by assumption)).mono ?_;rintro e w4 ⟨t4,p4,ht4,rfl,hT4,hR4,hG4⟩)|(go_at_call 80;with_reducible refine(leaf_any ⟨0,14,⟨#[]⟩,0,2,placeOf C.l C.e i⟩ _ _ _ _).mono ?_;rintro e wl ⟨rfl,rfl⟩));subst ht4;go_ret;exact post_leaf1 ⟨0,14,⟨#[]⟩,0,2,placeOf C.l C.e i⟩ HE.out.symm (hT4.mono (old_le (grown_trans hG1 (grown_trans hG2 hG3)))) hR4 (grown_trans hG1 (grown_trans hG2 (grown_trans hG3 hG4)))
  ·rw[if_neg c2] at hr;have d2:zb C.l i ⟨#[33]⟩=false:=by simpa using c2
   clear c2;have hS:=fun W a=>hA i W r hr a;clear hU hA hr;cases r with
   |no p=>
    have hS:=fun W a=>zF (hS W a);go_enter Tryz.func173,Tryz.ntmps173;go_wp2_with (first|(go_at_call 78;with_reducible refine(yy C i _ (by assumption)).mono ?_;rintro e w1 ⟨rfl,hR1,hG1⟩)|(go_at_call 79;with_reducible refine(skip_not C i ⟨#[45]⟩ _ (by assumption) d1).mono ?_;rintro e w2 ⟨rfl,hR2,hG2⟩)|(go_at_call 79;with_reducible refine(skip_not C i ⟨#[33]⟩ _ (by assumption) d2).mono ?_;rintro e w3 ⟨rfl,hR3,hG3⟩)|(go_at_call 181;with_reducible refine(hS _ (by assumption)).mono ?_;rintro e w4 ⟨ch,rfl,hF⟩));exact⟨rfl,_,rfl,hF.later (grown_trans hG1 (grown_trans hG2 hG3))⟩
   |ok ts j=>
    have hS:=fun W a=>zD (hS W a);go_enter Tryz.func173,Tryz.ntmps173;go_wp2_with (first|(go_at_call 78;with_reducible refine(yy C i _ (by assumption)).mono ?_;rintro e w1 ⟨rfl,hR1,hG1⟩)|(go_at_call 79;with_reducible refine(skip_not C i ⟨#[45]⟩ _ (by assumption) d1).mono ?_;rintro e w2 ⟨rfl,hR2,hG2⟩)|(go_at_call 79;with_reducible refine(skip_not C i ⟨#[33]⟩ _ (by assumption) d2).mono ?_;rintro e w3 ⟨rfl,hR3,hG3⟩)|(go_at_call 181;with_reducible refine(hS _ (by assumption)).mono ?_;rintro e w4 ⟨t4,p4,ht4,rfl,hT4,hR4,hG4⟩));subst ht4;go_ret;exact post_tree rfl (hT4.mono (old_le (grown_trans hG1 (grown_trans hG2 hG3)))) hR4 (grown_trans hG1 (grown_trans hG2 (grown_trans hG3 hG4))) 0
theorem step_expr(C:Ctx)(n:Nat)(ih:∀f,f<=n->Exprs C f)(i:Nat)(w:World)(r:Res (List Tr))(hr:rd C (n+1) (.row 0) i=some r)(h:Rd C i w):Calls Tryz.prog 157 #[.pointer (some ⟨C.r,0,none⟩)] w (zI C w r (isTree C w)):=by
 have hrow:∀(m:Nat) (W:World),Grew C (w.alloc (.cells #[.pointer (some ⟨C.r,0,none⟩)] 84)) W->W.heap[m]? =some (.map (qX 0) 1)->m≠C.r->Rd C i W->Calls Tryz.prog 168 #[.pointer (some ⟨C.r,0,none⟩), .func (.func 169) #[] #[.pointer (some ⟨w.heap.size,0,none⟩)], .bool false, .map (some m)] W (zI C W r (isTree C W)):=fun m W hg hm hmr hR=>
  kj C 0 n n 169 #[] #[.pointer (some ⟨w.heap.size,0,none⟩)] m 1 (Box C w.heap.size) cf169 (fun w w' h hg=>Box.grew w w' h hg) (fun f' hf' i w r hr hR hB=>(ih f' hf').r1 i w r _ hr hR hB) (Nat.le_refl _) i W r (by have h1:=hr;simp only[rd,show ¬5<=0 from by omega,if_false] at h1;exact h1) hR (Box.grew _ _ ⟨by simp[go_sem],by have:=h.lt;omega⟩ hg) hm hmr _ (by decide)
 have hmk:=xk 0;have hheap:=Lib.hid (show ∀(o o':Obj),((w.alloc o).alloc o').heap[w.heap.size+1]? =some o' from fun o o'=>by simpa using heap_alloc_new (w.alloc o) o')
 have g0:∀o,(Instr.mapUpdate 229 (.map (some (w.heap.size+1))) (.string {data:= #[124,124]}) (.int .i64 15)).run Tryz.prog ((w.alloc o).alloc (.map (pre 0 0) 0))= .ok () ((w.alloc o).alloc (.map (pre 0 1) 1)):=fun o=>by simpa using zhU (w.alloc o)
 have hlt:=h.lt;have HRd:=Lib.hid h;clear hr h ih;cases r with
 |no p=>
  have hrow:=fun m W a b c d=>zF (hrow m W a b c d);go_enter Tryz.func157,Tryz.ntmps157;go_wp2_with (go_at_call 168;refine(hrow (w.heap.size+1) _ (World.grownBy_alloc _ _ _) (hheap.out _ _) (by omega) ((HRd.out.alloc _).alloc _)).mono ?_;rintro e w' ⟨ch,rfl,hF⟩);exact⟨rfl,_,rfl,hF.later (grew_alloc2 w _ _)⟩
 |ok ts j=>
  have hrow:=fun m W a b c d=>zD (hrow m W a b c d);go_enter Tryz.func157,Tryz.ntmps157;go_wp2_with (go_at_call 168;refine(hrow (w.heap.size+1) _ (World.grownBy_alloc _ _ _) (hheap.out _ _) (by omega) ((HRd.out.alloc _).alloc _)).mono ?_;rintro e w' ⟨t,p,rfl,rfl,hT,hR,hG⟩);go_ret;exact post_tree rfl (hT.mono (old_le (grew_alloc2 w _ _))) hR (grown_trans (grew_alloc2 w _ _) hG) 0
theorem step_atom(C:Ctx)(n:Nat)(ih:∀f,f<=n->Exprs C f)(i:Nat)(w:World)(r:Res (List Tr))(hr:rd C (n+1) .atom i=some r)(h:Rd C i w):Calls Tryz.prog 181 #[.pointer (some ⟨C.r,0,none⟩)] w (zI C w r (isTree C w)):=by
 have hX:=(ih n (Nat.le_refl _)).expr;have hlt:=h.lt;clear ih;simp only[rd] at hr;by_cases c1:zb C.l i ⟨#[116,114,117,101]⟩=true
 ·rw[if_pos c1] at hr;have HE:=Lib.hid (Option.some.inj hr);clear hr hX;go_enter Tryz.func181,Tryz.ntmps181;go_wp2_with (first|(go_at_call 78;with_reducible refine(yy C i _ (by assumption)).mono ?_;rintro e w1 ⟨rfl,hR1,hG1⟩)|(go_at_call 79;with_reducible refine(skip_yes C i ⟨#[116,114,117,101]⟩ _ (by assumption) c1).mono ?_;rintro e w2 ⟨rfl,hR2,hG2⟩)|(go_at_call 80;with_reducible refine(leaf_any ⟨0,11,⟨#[]⟩,1,0,placeOf C.l C.e i⟩ _ _ _ _).mono ?_;rintro e wl ⟨rfl,rfl⟩));go_ret;exact post_leaf0 ⟨0,11,⟨#[]⟩,1,0,placeOf C.l C.e i⟩ HE.out.symm hR2 (grown_trans hG1 hG2) _ _
 ·rw[if_neg c1] at hr;have d1:zb C.l i ⟨#[116,114,117,101]⟩=false:=by simpa using c1
  clear c1;by_cases c2:zb C.l i ⟨#[102,97,108,115,101]⟩=true
  ·rw[if_pos c2] at hr;have HE:=Lib.hid (Option.some.inj hr);clear hr hX;go_enter Tryz.func181,Tryz.ntmps181;go_wp2_with (first|(go_at_call 78;with_reducible refine(yy C i _ (by assumption)).mono ?_;rintro e w1 ⟨rfl,hR1,hG1⟩)|(go_at_call 79;with_reducible refine(skip_not C i ⟨#[116,114,117,101]⟩ _ (by assumption) d1).mono ?_;rintro e w2 ⟨rfl,hR2,hG2⟩)|(go_at_call 79;with_reducible refine(skip_yes C i ⟨#[102,97,108,115,101]⟩ _ (by assumption) c2).mono ?_;rintro e w3 ⟨rfl,hR3,hG3⟩)|(go_at_call 80;with_reducible refine(leaf_any ⟨0,11,⟨#[]⟩,0,0,placeOf C.l C.e i⟩ _ _ _ _).mono ?_;rintro e wl ⟨rfl,rfl⟩));go_ret;exact post_leaf0 ⟨0,11,⟨#[]⟩,0,0,placeOf C.l C.e i⟩ HE.out.symm hR3 (grown_trans hG1 (grown_trans hG2 hG3)) _ _
  ·rw[if_neg c2] at hr;have d2:zb C.l i ⟨#[102,97,108,115,101]⟩=false:=by simpa using c2
   clear c2;by_cases c3:zb C.l i ⟨#[40]⟩=true
   ·rw[if_pos c3] at hr;cases hx:rd C n (.row 0) (i+1) with
    |none=>rw[hx] at hr;cases hr
    |some x=>
     rw[hx] at hr;have hS:=fun W a=>hX (i+1) W x hx a;clear hx;cases x with
     |no p=>
      obtain rfl:Res.no p=r:=by simpa only [andThen,Option.some.injEq] using hr
      have hS:=fun W a=>zF (hS W a);clear hr hX;go_enter Tryz.func181,Tryz.ntmps181;go_wp2_with (first|(go_at_call 78;with_reducible refine(yy C i _ (by assumption)).mono ?_;rintro e w1 ⟨rfl,hR1,hG1⟩)|(go_at_call 79;with_reducible refine(skip_not C i ⟨#[116,114,117,101]⟩ _ (by assumption) d1).mono ?_;rintro e w2 ⟨rfl,hR2,hG2⟩)|(go_at_call 79;with_reducible refine(skip_not C i ⟨#[102,97,108,115,101]⟩ _ (by assumption) d2).mono ?_;rintro e w3 ⟨rfl,hR3,hG3⟩)|(go_at_call 79;with_reducible refine(skip_yes C i ⟨#[40]⟩ _ (by assumption) c3).mono ?_;rintro e w4 ⟨rfl,hR4,hG4⟩)|(go_at_call 157;with_reducible refine(hS _ (by assumption)).mono ?_;rintro e w5 ⟨ch,rfl,hF⟩));exact⟨rfl,_,rfl,hF.later (grown_trans hG1 (grown_trans hG2 (grown_trans hG3 hG4)))⟩
     |ok ts j=>
      have hS:=fun W a=>zD (hS W a);simp only[andThen] at hr;by_cases c4:zb C.l j ⟨#[41]⟩=true
      ·simp only[zp,if_pos c4,andThen] at hr;have HE:=Lib.hid (Option.some.inj hr);clear hr hX;go_enter Tryz.func181,Tryz.ntmps181;go_wp2_with (first|(go_at_call 78;with_reducible refine(yy C i _ (by assumption)).mono ?_;rintro e w1 ⟨rfl,hR1,hG1⟩)|(go_at_call 79;with_reducible refine(skip_not C i ⟨#[116,114,117,101]⟩ _ (by assumption) d1).mono ?_;rintro e w2 ⟨rfl,hR2,hG2⟩)|(go_at_call 79;with_reducible refine(skip_not C i ⟨#[102,97,108,115,101]⟩ _ (by assumption) d2).mono ?_;rintro e w3 ⟨rfl,hR3,hG3⟩)|(go_at_call 79;with_reducible refine(skip_yes C i ⟨#[40]⟩ _ (by assumption) c3).mono ?_;rintro e w4 ⟨rfl,hR4,hG4⟩)|(go_at_call 157;with_reducible refine(hS _ (by assumption)).mono ?_;rintro e w5 ⟨t5,p5,ht5,rfl,hT5,hR5,hG5⟩)|(go_at_call 82;with_reducible refine(want_any C j ⟨#[41]⟩ _ (by assumption) c4).mono ?_;rintro e w6 ⟨rfl,hR6,hG6⟩));subst ht5;go_ret;exact post_tree HE.out.symm ((hT5.mono (old_le (grown_trans hG1 (grown_trans hG2 (grown_trans hG3 hG4))))).grew hG6) hR6 (grown_trans hG1 (grown_trans hG2 (grown_trans hG3 (grown_trans hG4 (grown_trans hG5 hG6))))) 0
      ·have c4n:zb C.l j ⟨#[41]⟩=false:=by simpa using c4
       simp only[zp,if_neg c4,andThen,Option.some.injEq] at hr;subst hr;clear c4;go_enter Tryz.func181,Tryz.ntmps181;go_wp2_with (first|(go_at_call 78;with_reducible refine(yy C i _ (by assumption)).mono ?_;rintro e w1 ⟨rfl,hR1,hG1⟩)|(go_at_call 79;with_reducible refine(skip_not C i ⟨#[116,114,117,101]⟩ _ (by assumption) d1).mono ?_;rintro e w2 ⟨rfl,hR2,hG2⟩)|(go_at_call 79;with_reducible refine(skip_not C i ⟨#[102,97,108,115,101]⟩ _ (by assumption) d2).mono ?_;rintro e w3 ⟨rfl,hR3,hG3⟩)|(go_at_call 79;with_reducible refine(skip_yes C i ⟨#[40]⟩ _ (by assumption) c3).mono ?_;rintro e w4 ⟨rfl,hR4,hG4⟩)|(go_at_call 157;with_reducible refine(hS _ (by assumption)).mono ?_;rintro e w5 ⟨t5,p5,ht5,rfl,hT5,hR5,hG5⟩)|(go_at_call 82;with_reducible refine(want_not C j ⟨#[41]⟩ _ (by assumption) c4n).mono ?_;rintro e w6 ⟨ch,rfl,hF⟩));exact⟨rfl,_,rfl,hF.later (grown_trans hG1 (grown_trans hG2 (grown_trans hG3 (grown_trans hG4 hG5))))⟩
   ·rw[if_neg c3] at hr;have d3:zb C.l i ⟨#[40]⟩=false:=by simpa using c3
    clear c3;by_cases c5:zO C.l i=true
    ·rw[if_pos c5] at hr;by_cases c6:zb C.l (i+1) ⟨#[91]⟩=true
     ·rw[if_pos c6] at hr;cases hx:rd C n (.row 0) (i+2) with
      |none=>rw[hx] at hr;cases hr
      |some x=>
       rw[hx] at hr;have hS:=fun W a=>hX (i+2) W x hx a;clear hx;cases x with
       |no p=>
        obtain rfl:Res.no p=r:=by simpa only [andThen,Option.some.injEq] using hr
        have hS:=fun W a=>zF (hS W a);clear hr hX;go_enter Tryz.func181,Tryz.ntmps181;go_wp2_with (first|(go_at_call 78;with_reducible refine(yy C i _ (by assumption)).mono ?_;rintro e w1 ⟨rfl,hR1,hG1⟩)|(go_at_call 79;with_reducible refine(skip_not C i ⟨#[116,114,117,101]⟩ _ (by assumption) d1).mono ?_;rintro e w2 ⟨rfl,hR2,hG2⟩)|(go_at_call 79;with_reducible refine(skip_not C i ⟨#[102,97,108,115,101]⟩ _ (by assumption) d2).mono ?_;rintro e w3 ⟨rfl,hR3,hG3⟩)|(go_at_call 79;with_reducible refine(skip_not C i ⟨#[40]⟩ _ (by assumption) d3).mono ?_;rintro e w4 ⟨rfl,hR4,hG4⟩)|(go_at_call 121;with_reducible refine(named_yes C i _ (by assumption) c5).mono ?_;rintro e w5 ⟨rfl,hR5,hG5⟩)|(go_at_call 81;with_reducible refine(name_yes C i _ (by assumption) c5).mono ?_;rintro e w6 ⟨rfl,hR6,hG6⟩)|(go_at_call 79;with_reducible refine(skip_yes C (i+1) ⟨#[91]⟩ _ (by assumption) c6).mono ?_;rintro e w7 ⟨rfl,hR7,hG7⟩)|(go_at_call 157;with_reducible refine(hS _ (by assumption)).mono ?_;rintro e w8 ⟨ch,rfl,hF⟩));exact⟨rfl,_,rfl,hF.later (grown_trans hG1 (grown_trans hG2 (grown_trans hG3 (grown_trans hG4 (grown_trans hG5 (grown_trans hG6 hG7))))))⟩
       |ok ts j=>
        have hS:=fun W a=>zD (hS W a);simp only[andThen] at hr;by_cases c7:zb C.l j ⟨#[93]⟩=true
        ·simp only[zp,if_pos c7,andThen] at hr;have HE:=Lib.hid (Option.some.inj hr);clear hr hX;go_enter Tryz.func181,Tryz.ntmps181;go_wp2_with (first|(go_at_call 78;with_reducible refine(yy C i _ (by assumption)).mono ?_;rintro e w1 ⟨rfl,hR1,hG1⟩)|(go_at_call 79;with_reducible refine(skip_not C i ⟨#[116,114,117,101]⟩ _ (by assumption) d1).mono ?_;rintro e w2 ⟨rfl,hR2,hG2⟩)|(go_at_call 79;with_reducible refine(skip_not C i ⟨#[102,97,108,115,101]⟩ _ (by assumption) d2).mono ?_;rintro e w3 ⟨rfl,hR3,hG3⟩)|(go_at_call 79;with_reducible refine(skip_not C i ⟨#[40]⟩ _ (by assumption) d3).mono ?_;rintro e w4 ⟨rfl,hR4,hG4⟩)|(go_at_call 121;with_reducible refine(named_yes C i _ (by assumption) c5).mono ?_;rintro e w5 ⟨rfl,hR5,hG5⟩)|(go_at_call 81;with_reducible refine(name_yes C i _ (by assumption) c5).mono ?_;rintro e w6 ⟨rfl,hR6,hG6⟩)|(go_at_call 79;with_reducible refine(skip_yes C (i+1) ⟨#[91]⟩ _ (by assumption) c6).mono ?_;rintro e w7 ⟨rfl,hR7,hG7⟩)|(go_at_call 157;with_reducible refine(hS _ (by assumption)).mono ?_;rintro e w8 ⟨t8,p8,ht8,rfl,hT8,hR8,hG8⟩)|(go_at_call 82;with_reducible refine(want_any C j ⟨#[93]⟩ _ (by assumption) c7).mono ?_;rintro e w9 ⟨rfl,hR9,hG9⟩)|(go_at_call 80;with_reducible refine(leaf_any ⟨0,13,textAt C.l i,0,0,placeOf C.l C.e i⟩ _ _ _ _).mono ?_;rintro e wl ⟨rfl,rfl⟩));subst ht8;go_ret;exact post_leaf1 ⟨0,13,textAt C.l i,0,0,placeOf C.l C.e i⟩ HE.out.symm ((hT8.mono (old_le (grown_trans hG1 (grown_trans hG2 (grown_trans hG3 (grown_trans hG4 (grown_trans hG5 (grown_trans hG6 hG7)))))))).grew hG9) hR9 (grown_trans hG1 (grown_trans hG2 (grown_trans hG3 (grown_trans hG4 (grown_trans hG5 (grown_trans hG6 (grown_trans hG7 (grown_trans hG8 hG9))))))))
        ·have c7n:zb C.l j ⟨#[93]⟩=false:=by simpa using c7
         simp only[zp,if_neg c7,andThen,Option.some.injEq] at hr;subst hr;clear c7;go_enter Tryz.func181,Tryz.ntmps181;go_wp2_with (first|(go_at_call 78;with_reducible refine(yy C i _ (by assumption)).mono ?_;rintro e w1 ⟨rfl,hR1,hG1⟩)|(go_at_call 79;with_reducible refine(skip_not C i ⟨#[116,114,117,101]⟩ _ (by assumption) d1).mono ?_;rintro e w2 ⟨rfl,hR2,hG2⟩)|(go_at_call 79;with_reducible refine(skip_not C i ⟨#[102,97,108,115,101]⟩ _ (by assumption) d2).mono ?_;rintro e w3 ⟨rfl,hR3,hG3⟩)|(go_at_call 79;with_reducible refine(skip_not C i ⟨#[40]⟩ _ (by assumption) d3).mono ?_;rintro e w4 ⟨rfl,hR4,hG4⟩)|(go_at_call 121;with_reducible refine(named_yes C i _ (by assumption) c5).mono ?_;rintro e w5 ⟨rfl,hR5,hG5⟩)|(go_at_call 81;with_reducible refine(name_yes C i _ (by assumption) c5).mono ?_;rintro e w6 ⟨rfl,hR6,hG6⟩)|(go_at_call 79;with_reducible refine(skip_yes C (i+1) ⟨#[91]⟩ _ (by assumption) c6).mono ?_;rintro e w7 ⟨rfl,hR7,hG7⟩)|(go_at_call 157;with_reducible refine(hS _ (by assumption)).mono ?_;rintro e w8 ⟨t8,p8,ht8,rfl,hT8,hR8,hG8⟩)|(go_at_call 82;with_reducible refine(want_not C j ⟨#[93]⟩ _ (by assumption) c7n).mono ?_;rintro e w9 ⟨ch,rfl,hF⟩));exact⟨rfl,_,rfl,hF.later (grown_trans hG1 (grown_trans hG2 (grown_trans hG3 (grown_trans hG4 (grown_trans hG5 (grown_trans hG6 (grown_trans hG7 hG8)))))))⟩
     ·rw[if_neg c6] at hr;have d6:zb C.l (i+1) ⟨#[91]⟩=false:=by simpa using c6
      clear c6;have HE:=Lib.hid (Option.some.inj hr);clear hr hX;go_enter Tryz.func181,Tryz.ntmps181;go_wp2_with (first|(go_at_call 78;with_reducible refine(yy C i _ (by assumption)).mono ?_;rintro e w1 ⟨rfl,hR1,hG1⟩)|(go_at_call 79;with_reducible refine(skip_not C i ⟨#[116,114,117,101]⟩ _ (by assumption) d1).mono ?_;rintro e w2 ⟨rfl,hR2,hG2⟩)|(go_at_call 79;with_reducible refine(skip_not C i ⟨#[102,97,108,115,101]⟩ _ (by assumption) d2).mono ?_;rintro e w3 ⟨rfl,hR3,hG3⟩)|(go_at_call 79;with_reducible refine(skip_not C i ⟨#[40]⟩ _ (by assumption) d3).mono ?_;rintro e w4 ⟨rfl,hR4,hG4⟩)|(go_at_call 121;with_reducible refine(named_yes C i _ (by assumption) c5).mono ?_;rintro e w5 ⟨rfl,hR5,hG5⟩)|(go_at_call 81;with_reducible refine(name_yes C i _ (by assumption) c5).mono ?_;rintro e w6 ⟨rfl,hR6,hG6⟩)|(go_at_call 79;with_reducible refine(skip_not C (i+1) ⟨#[91]⟩ _ (by assumption) d6).mono ?_;rintro e w7 ⟨rfl,hR7,hG7⟩)|(go_at_call 80;with_reducible refine(leaf_any ⟨0,12,textAt C.l i,0,0,placeOf C.l C.e i⟩ _ _ _ _).mono ?_;rintro e wl ⟨rfl,rfl⟩));go_ret;exact post_leaf0 ⟨0,12,textAt C.l i,0,0,placeOf C.l C.e i⟩ HE.out.symm hR7 (grown_trans hG1 (grown_trans hG2 (grown_trans hG3 (grown_trans hG4 (grown_trans hG5 (grown_trans hG6 hG7)))))) _ _
    ·rw[if_neg c5] at hr;have d5:zO C.l i=false:=by simpa using c5
     clear c5 hX;by_cases c8:xK C.l i=true
     ·simp only[ym,if_pos c8,andThen] at hr;have HE:=Lib.hid (Option.some.inj hr);clear hr;go_enter Tryz.func181,Tryz.ntmps181;go_wp2_with (first|(go_at_call 78;with_reducible refine(yy C i _ (by assumption)).mono ?_;rintro e w1 ⟨rfl,hR1,hG1⟩)|(go_at_call 79;with_reducible refine(skip_not C i ⟨#[116,114,117,101]⟩ _ (by assumption) d1).mono ?_;rintro e w2 ⟨rfl,hR2,hG2⟩)|(go_at_call 79;with_reducible refine(skip_not C i ⟨#[102,97,108,115,101]⟩ _ (by assumption) d2).mono ?_;rintro e w3 ⟨rfl,hR3,hG3⟩)|(go_at_call 79;with_reducible refine(skip_not C i ⟨#[40]⟩ _ (by assumption) d3).mono ?_;rintro e w4 ⟨rfl,hR4,hG4⟩)|(go_at_call 121;with_reducible refine(named_not C i _ (by assumption) d5).mono ?_;rintro e w5 ⟨rfl,hR5,hG5⟩)|(go_at_call 83;with_reducible refine(number_yes C i _ (by assumption) c8).mono ?_;rintro e w6 ⟨rfl,hR6,hG6⟩)|(go_at_call 80;with_reducible refine(leaf_any ⟨0,10,⟨#[]⟩,numAtT C.l i,0,placeOf C.l C.e i⟩ _ _ _ _).mono ?_;rintro e wl ⟨rfl,rfl⟩));go_ret;exact post_leaf0 ⟨0,10,⟨#[]⟩,numAtT C.l i,0,placeOf C.l C.e i⟩ HE.out.symm hR6 (grown_trans hG1 (grown_trans hG2 (grown_trans hG3 (grown_trans hG4 (grown_trans hG5 hG6))))) _ _
     ·have d8:xK C.l i=false:=by simpa using c8
      simp only[ym,if_neg c8,andThen,Option.some.injEq] at hr;subst hr;clear c8;go_enter Tryz.func181,Tryz.ntmps181;go_wp2_with (first|(go_at_call 78;with_reducible refine(yy C i _ (by assumption)).mono ?_;rintro e w1 ⟨rfl,hR1,hG1⟩)|(go_at_call 79;with_reducible refine(skip_not C i ⟨#[116,114,117,101]⟩ _ (by assumption) d1).mono ?_;rintro e w2 ⟨rfl,hR2,hG2⟩)|(go_at_call 79;with_reducible refine(skip_not C i ⟨#[102,97,108,115,101]⟩ _ (by assumption) d2).mono ?_;rintro e w3 ⟨rfl,hR3,hG3⟩)|(go_at_call 79;with_reducible refine(skip_not C i ⟨#[40]⟩ _ (by assumption) d3).mono ?_;rintro e w4 ⟨rfl,hR4,hG4⟩)|(go_at_call 121;with_reducible refine(named_not C i _ (by assumption) d5).mono ?_;rintro e w5 ⟨rfl,hR5,hG5⟩)|(go_at_call 83;with_reducible refine(number_no C i _ (by assumption) d8).mono ?_;rintro e w6 ⟨ch,rfl,hF⟩));exact⟨rfl,_,rfl,hF.later (grown_trans hG1 (grown_trans hG2 (grown_trans hG3 (grown_trans hG4 hG5))))⟩
theorem exprs_all(C:Ctx):∀f,Exprs C f:=by
 intro f;induction f using Nat.strongRecOn with
 |_ f ih=>
  cases f with
  |zero=>exact zcW C
  |succ n=>
   have ih':∀f,f<=n->Exprs C f:=fun f hf=>ih f (by omega)
   refine⟨step_expr C n ih',zho C n ih',step_r2 C n ih',step_r3 C n ih',step_r4 C n ih',fun i w r hr h=>?_,zci C n ih',step_atom C n ih'⟩;simp only[rd,show(5<=5) from Nat.le_refl _,if_true] at hr;exact(ih' n (Nat.le_refl _)).unary i w r hr h
theorem wK{P:Program}(w:World)(base:Nat)(t ty e:TypeId)(i:TypeInfo)(z:Value)(size bytes:Nat)(ht:P.underlying t=some (.slice e))(hi:P.info? e=some i)(hz:i.zero=some z)
 (hsize:i.size=size) (hby:i.bytes=bytes) (hzs:z.cells.size=size) (hsz:0<size)
 (v:Value) (n:Nat) (xs:List Value) (hown:w.ownsRow base e size v n xs)
 (a:Addr) (m c:Nat) (news:List Value) (hl:news.length=m*size) (hnews:∀j u,news[j]? =some u->w.cell? (a.add j)=some u) (h1:∀u∈news,u.oneCell'=true)
 (h63:n+m<=maxLen) (hbytes:(n+m)*bytes<=140737488355328) (hbase:base<=w.heap.size):
 ∃v' w',(Builtin.append_ #[t,t] ty #[v, .slice (some a) m c]).run P w= .ok v' w'/\w'.ownsRow base e size v' (n+m) (xs++news)/\w.grownBy w' v.ownBlock/\∀k,v'.ownBlock=some k->v.ownBlock=some k\/w.heap.size<=k:=by
 have mono:∀{w':World} {v':Value} {N:Nat} {ys:List Value},w'.ownsRow w.heap.size e size v' N ys->w'.ownsRow base e size v' N ys/\∀k,v'.ownBlock=some k->w.heap.size<=k:=by
  intro w' v' N ys h;refine⟨⟨h.1,?_⟩,fun k hk=>(h.lt k hk).1⟩;rcases h.2 with h2|⟨g,cap,cur,h2,h3,h4⟩
  ·exact .inl h2
  ·exact .inr ⟨g,cap,cur,h2,by omega,h4⟩
 rcases hown.2 with⟨rfl,rfl⟩|⟨g,cap,cur,rfl,hb,hg,hn,hm,hs,htake⟩
 ·obtain rfl:xs=[]:=List.eq_nil_of_length_eq_zero (by simpa using hown.1)
  obtain⟨v',w',r1,r2,r3,_⟩:=run_append_own (P:=P) w w.heap.size t ty e i z size bytes ht hi hz hsize hby hzs hsz (.slice none 0 0) 0 [] (World.ownsRow_nil w _ e size) a m c news hl hnews h1 h63 hbytes (Nat.le_refl _)
  exact⟨v',w',r1,(mono r2).1,r3,fun k hk=> .inr ((mono r2).2 k hk)⟩
 ·by_cases hroom:n+m<=cap
  ·obtain⟨w',r1,r2,r3⟩:=run_append_fits (P:=P) w base t ty e i size ht hi hsize g n cap xs hown a m c news hl hnews h1 hroom
   exact⟨_,w',r1,r2,r3,fun k hk=> .inl hk⟩
  ·have hcells:∀j u,xs[j]? =some u->w.cell? ((⟨g,0,none⟩:Addr).add j)=some u:=hown.cells rfl;obtain⟨v',w',r1,r2,r3⟩:=run_append_arg_grows (P:=P) w t ty e i z size bytes ht hi hz hsize hby hzs hsz ⟨g,0,none⟩ n cap xs hown.1 hcells a m c news hl hnews (by omega) h63 hbytes
   exact⟨v',w',r1,(mono r2).1,⟨r3.os,r3.tape,r3.output,r3.size,fun k hk _=>r3.block k hk (by simp)⟩,fun k hk=> .inr ((mono r2).2 k hk)⟩
theorem zk{P:Program}(w:World){ops:Array Oper}{rest:List Oper}{o:Oper}{a:Act}{Q:Exit->Act->World->Prop}(hgd:o.guard=none)(s x:Operand)(t:TypeId)
 (ho:o.op= .call {callee:= .builtin .append,args:= #[s,x],argTypes:= #[t,t]})
 (base:Nat) (e:TypeId) (i:TypeInfo) (z:Value) (size bytes:Nat) (ht:P.underlying t=some (.slice e)) (hi:P.info? e=some i) (hz:i.zero=some z)
 (hsize:i.size=size) (hby:i.bytes=bytes) (hzs:z.cells.size=size) (hsz:0<size)
 (v:Value) (n:Nat) (xs:List Value) (hs:a.eval s=v) (hown:w.ownsRow base e size v n xs)
 (ad:Addr) (m c:Nat) (news:List Value) (hx:a.eval x= .slice (some ad) m c) (hl:news.length=m*size) (hnews:∀j u,news[j]? =some u->w.cell? (ad.add j)=some u) (h1:∀u∈news,u.oneCell'=true)
 (h63:n+m<=maxLen) (hbytes:(n+m)*bytes<=140737488355328) (hbase:base<=w.heap.size)
 (h:∀v' w',w'.ownsRow base e size v' (n+m) (xs++news)->w.grownBy w' v.ownBlock->(∀k,v'.ownBlock=some k->v.ownBlock=some k\/w.heap.size<=k)->wpList P ops Q rest (a.put o.dst v') w'):wpList P ops Q (o::rest) a w:=by
 refine wpList_plain hgd fun K hK=>?_;obtain⟨v',w',hrun,r1,r2,r3⟩:=wK (P:=P) w base t o.type e i z size bytes ht hi hz hsize hby hzs hsz v n xs hown ad m c news hl hnews h1 h63 hbytes hbase
 unfold Oper.wp;simp[execOp,ho,resolve,invoke,builtin,hs,hx,hrun,Result.andThen];exact hK _ _ (h v' w' r1 r2 r3)
def ptrV(p:Nat):Value:= .pointer (some ⟨p,0,none⟩)
def KidsOwn(C:Ctx)(w0 w:World)(v:Value)(ks:List Tr):Prop:=
 ∃ps:List Nat,ps.length=ks.length/\w.ownsRow w0.heap.size 89 1 v ks.length (ps.map ptrV)/\∀(j:Nat) (t:Tr),ks[j]? =some t->∃p,ps[j]? =some p/\TrAt (fun k=>Old C w0 k\/v.ownBlock=some k) w p t
theorem ua(C:Ctx)(w0 w:World):KidsOwn C w0 w (.slice none 0 0) []:=⟨[],rfl,World.ownsRow_nil _ _ _ _,fun j t hj=>by simp at hj⟩
theorem KidsOwn.row{C:Ctx}{w0 w:World}{v:Value}{ks:List Tr}(h:KidsOwn C w0 w v ks)(hr:C.r<w0.heap.size){k:Nat}(hk:v.ownBlock=some k):w0.heap.size<=k/\k≠C.r/\k<w.heap.size:=by
 obtain⟨ps,h1,h2,h3⟩:=h
 have:=h2.lt k hk
 omega
theorem KidsOwn.grew{C:Ctx}{w0 w w':World}{v:Value}{ks:List Tr}(hr:C.r<w0.heap.size)(hg:Grew C w w')(h:KidsOwn C w0 w v ks):KidsOwn C w0 w' v ks:=by
 have hrow:=fun k (hk:v.ownBlock=some k)=>h.row hr hk;obtain⟨ps,h1,h2,h3⟩:=h
 refine⟨ps,h1,h2.kept hg ?_,fun j t hj=>?_⟩
 ·cases hv:v.ownBlock with
  |none=>exact .inl rfl
  |some k=>right;have:=(hrow k hv).2.1;simp;omega
 ·obtain⟨p,hp,hT⟩:=h3 j t hj
  exact⟨p,hp,hT.kept fun k hk hx=>hg.block k hk (by simp;rintro rfl;exact hx (.inl (.inl rfl)))⟩
theorem KidsOwn.append{C:Ctx}{w0 w w':World}{v v':Value}{ks ts:List Tr}{ps qs:List Nat}(h1:ps.length=ks.length)(h3:∀(j:Nat) (t:Tr),ks[j]? =some t->∃p,ps[j]? =some p/\TrAt (fun k=>Old C w0 k\/v.ownBlock=some k) w p t)(hq:qs.length=ts.length)
 (hts:∀(j:Nat) (t:Tr),ts[j]? =some t->∃p,qs[j]? =some p/\TrAt (fun k=>Old C w0 k\/v.ownBlock=some k) w p t) {o:Obj}
 (hown:w'.ownsRow w0.heap.size 89 1 v' (ks.length+ts.length) (ps.map ptrV++qs.map ptrV)) (hg:(w.alloc o).grownBy w' v.ownBlock) (hv:∀k,v'.ownBlock=some k->v.ownBlock=some k\/(w.alloc o).heap.size<=k):
 KidsOwn C w0 w' v' (ks++ts):=by
 have hkeep:∀{p:Nat} {t:Tr},TrAt (fun k=>Old C w0 k\/v.ownBlock=some k) w p t->TrAt (fun k=>Old C w0 k\/v'.ownBlock=some k) w' p t:=by
  intro p t hT;have hT3:=hT.bound.kept (w':=w') fun k hk hx=>by
   rw[hg.block k (by simp;omega) (fun e=>hx (.inl (.inr e.symm)))]
   exact(World.grownBy_alloc w o none).block k hk (by simp)
  refine hT3.mono fun k hk=>?_;rcases hk with hk|hk
  ·exact .inl (.inl hk)
  ·rcases hv k hk with h|h
   ·exact .inl (.inr h)
   ·exact .inr (by simp at h;omega)
 refine⟨ps++qs,by simp[h1,hq],by rw[List.map_append,List.length_append];exact hown,fun j t hj=>?_⟩
 by_cases hlt:j<ks.length
 ·rw[List.getElem?_append_left hlt] at hj;obtain⟨p,hp,hT⟩:=h3 j t hj
  exact⟨p,by rw[List.getElem?_append_left (by omega)];exact hp,hkeep hT⟩
 ·rw[List.getElem?_append_right (by omega)] at hj
  obtain⟨p,hp,hT⟩:=hts _ t hj
  exact⟨p,by rw[List.getElem?_append_right (by omega),h1];exact hp,hkeep hT⟩
theorem new1(w:World)(p:Nat):∀(j:Nat) (u:Value),[ptrV p][j]? =some u->(w.alloc (.cells #[.pointer (some ⟨p,0,none⟩)] 89)).cell? ((⟨w.heap.size,0,none⟩:Addr).add j)=some u:=by
 intro j u hj
 match j,hj with
 |0,hj=>simp at hj;subst hj;simp[go_sem,Addr.add,ptrV]
 |j+1,hj=>simp at hj
theorem new2(w:World)(p q:Nat):∀(j:Nat) (u:Value),[ptrV p,ptrV q][j]? =some u->(w.alloc (.cells #[.pointer (some ⟨p,0,none⟩), .pointer (some ⟨q,0,none⟩)] 89)).cell? ((⟨w.heap.size,0,none⟩:Addr).add j)=some u:=by
 intro j u hj
 match j,hj with
 |0,hj=>simp at hj;subst hj;simp[go_sem,Addr.add,ptrV]
 |1,hj=>simp at hj;subst hj;simp[go_sem,Addr.add,ptrV]
 |j+2,hj=>simp at hj
theorem yL(l:List Nat):∀u∈l.map ptrV,u.oneCell'=true:=by
 intro u hu;obtain⟨p,_,rfl⟩:=List.mem_map.1 hu
 rfl
theorem KidsOwn.kids{C:Ctx}{w0 w:World}{v:Value}{ks:List Tr}(hr:C.r<w0.heap.size)(h:KidsOwn C w0 w v ks):∃b cap,v= .slice b ks.length cap/\xp (Old C w0) w b cap ks:=by
 have hrow:=fun k (hk:v.ownBlock=some k)=>h.row hr hk;obtain⟨ps,h1,h2,h3⟩:=h
 rcases h2.2 with⟨rfl,hn⟩|⟨g,cap,cur,rfl,hb,hg,hn,hm,hs,htake⟩
 ·have hks:ks=[]:=List.eq_nil_of_length_eq_zero hn;subst hks;exact⟨none,0,rfl,uU _ _ _ _⟩
 ·refine⟨_,_,rfl,g,fun j=>ps.getD j 0,fun _=>rfl,fun _=>by unfold Old;omega,hn,fun j t hj=>?_,fun j t hj=>?_⟩
  ·obtain⟨p,hp,_⟩:=h3 j t hj
   have:=h2.cells rfl j (ptrV p) (by simp[hp])
   rw[show((⟨g,0,none⟩:Addr).add j)=⟨g,j,none⟩ from by unfold Addr.add;split<;>simp_all] at this
   rw[this];simp[ptrV,List.getD,hp]
  ·obtain⟨p,hp,hT⟩:=h3 j t hj
   have e:ps.getD j 0=p:=by simp[List.getD,hp]
   show TrAt (Old C w0) w (ps.getD j 0) t;rw[e];exact hT.mono fun k hk=> .inl hk
theorem Rd.row{C:Ctx}{i i0:Nat}{w0 w w':World}(h0:Rd C i0 w0)(h:Rd C i w){row:Option Nat}(hg:w.grownBy w' row)(hN:∀k,row=some k->w0.heap.size<=k):Rd C i w':=by
 have k1:=h0.lt;have k2:=h0.lt0;have k3:=h0.gtok;have l1:=h.lt;have l2:=h.lt0;have same:∀n,n<w.heap.size->n<w0.heap.size->w'.heap[n]? =w.heap[n]? :=fun n h1 h2=>hg.block n h1 (fun e=>by have:=hN n e.symm;omega)
 have c:∀n x,n<w.heap.size->n<w0.heap.size->w'.cell? ⟨n,x,none⟩=w.cell? ⟨n,x,none⟩:=fun n x h1 h2=>World.cell?_of_block (a:=⟨n,x,none⟩) (same n h1 h2);have f:∀n x,n<w.heap.size->n<w0.heap.size->w'.frozen? ⟨n,x,none⟩=w.frozen? ⟨n,x,none⟩:=fun n x h1 h2=>World.frozen?_of_block (a:=⟨n,x,none⟩) (same n h1 h2);have hgt:∀b cap g,w.cell? ⟨C.r,0,none⟩=some (.slice b C.l.length cap)->(C.l≠[]->b=some ⟨g,0,none⟩)->C.l≠[]->g<w0.heap.size:=by
  intro b cap g h1 h2 hne;have h3:=h.tok _ _ _ h1 hne;rw[h2 hne] at h3;have:g=C.g:=by simpa using h3
  have:=k3 hne
  omega
 obtain⟨⟨b,cap,g,a0,hb,hcap,ht,hg2⟩,a1,a2,af,hle,hlen,he,hp,hk0⟩:=h
 exact⟨⟨b,cap,g,(c _ _ l1 k1).trans a0,hb,hcap,ht.of fun hne x=>c _ _ (Rd.glt (i:=i) ht hne) (hgt b cap g a0 hb hne),hg2⟩,(c _ _ l1 k1).trans a1,(c _ _ l1 k1).trans a2,(f _ _ l1 k1).trans af,hle,hlen,(c _ _ l2 k2).trans he,hp,fun b n cap hb=>hk0 b n cap ((c _ _ l1 k1).symm.trans hb)⟩
structure StI (C:Ctx) (w0:World) (i0 N B:Nat) (kind:Int) (name:ByteArray) (num at_:Int) (j:Nat) (w:World):Prop where
 rd0:Rd C i0 w0
 rd:Rd C j w
 grew:Grew C w0 w
 six:Six w N (.int .i64 0) (.int .i64 kind) (.string name) (.int .i64 num) (.int .i64 0) (.int .i64 at_)
 lo:w0.heap.size<=N
 lt:N<w.heap.size
 big:B<=w.heap.size
section
variable {C:Ctx} {w0 w w':World} {i0 N B j j':Nat} {kind num at_:Int} {name:ByteArray}
theorem StI.ne(h:StI C w0 i0 N B kind name num at_ j w):N≠C.r:=by have:=h.rd0.lt;have:=h.lo;omega
theorem StI.call(h:StI C w0 i0 N B kind name num at_ j w)(hR:Rd C j' w')(hG:Grew C w w'):StI C w0 i0 N B kind name num at_ j' w':=
 ⟨h.rd0,hR,grown_trans h.grew hG,h.six.grown hG h.lt (by have:=h.ne;simp;omega),h.lo,Nat.lt_of_lt_of_le h.lt hG.size,Nat.le_trans h.big hG.size⟩
theorem qq{row:Option Nat}(h:Grew C w0 w)(hg:w.grownBy w' row)(hN:∀k,row=some k->w0.heap.size<=k):Grew C w0 w':=
 ⟨hg.os.trans h.os,hg.tape.trans h.tape,hg.output.trans h.output,Nat.le_trans h.size hg.size,fun k hk hr=>(hg.block k (Nat.lt_of_lt_of_le hk h.size) (fun e=>by have:=hN k e.symm;omega)).trans (h.block k hk hr)⟩
theorem StI.grown{row:Option Nat}(h:StI C w0 i0 N B kind name num at_ j w)(hg:w.grownBy w' row)(hN:∀k,row=some k->w0.heap.size<=k/\k≠N):StI C w0 i0 N B kind name num at_ j w':=
 ⟨h.rd0,h.rd0.row h.rd hg (fun k hk=>(hN k hk).1),qq h.grew hg (fun k hk=>(hN k hk).1),h.six.grown hg h.lt (fun e=>(hN N e.symm).2 rfl),h.lo,Nat.lt_of_lt_of_le h.lt hg.size,Nat.le_trans h.big hg.size⟩
theorem StI.alloc(h:StI C w0 i0 N B kind name num at_ j w)(o:Obj):StI C w0 i0 N B kind name num at_ j (w.alloc o):=h.grown (World.grownBy_alloc w o none) (fun k hk=>by cases hk)
theorem StI.setKind(h:StI C w0 i0 N B kind name num at_ j w)(x:Int):StI C w0 i0 N B x name num at_ j (w.setCell ⟨N,1,none⟩ (.int .i64 x)):=by
 have hs:=zB w N 1 (.int .i64 x);obtain⟨c0,c1,c2,c3,c4,c5,f0,f1,f2,f3,f4,f5⟩:=h.six
 exact⟨h.rd0,h.rd0.set h.rd h.lo _ _,qq h.grew hs (fun k hk=>by cases hk;exact h.lo),by constructor<;>simp[go_sem,c0,c1,c2,c3,c4,c5,f0,f1,f2,f3,f4,f5],h.lo,Nat.lt_of_lt_of_le h.lt hs.size,Nat.le_trans h.big hs.size⟩
theorem StI.setName(h:StI C w0 i0 N B kind name num at_ j w)(x:ByteArray):StI C w0 i0 N B kind x num at_ j (w.setCell ⟨N,2,none⟩ (.string x)):=by
 have hs:=zB w N 2 (.string x);obtain⟨c0,c1,c2,c3,c4,c5,f0,f1,f2,f3,f4,f5⟩:=h.six
 exact⟨h.rd0,h.rd0.set h.rd h.lo _ _,qq h.grew hs (fun k hk=>by cases hk;exact h.lo),by constructor<;>simp[go_sem,c0,c1,c2,c3,c4,c5,f0,f1,f2,f3,f4,f5],h.lo,Nat.lt_of_lt_of_le h.lt hs.size,Nat.le_trans h.big hs.size⟩
theorem StI.setNum(h:StI C w0 i0 N B kind name num at_ j w)(x:Int):StI C w0 i0 N B kind name x at_ j (w.setCell ⟨N,3,none⟩ (.int .i64 x)):=by
 have hs:=zB w N 3 (.int .i64 x);obtain⟨c0,c1,c2,c3,c4,c5,f0,f1,f2,f3,f4,f5⟩:=h.six
 exact⟨h.rd0,h.rd0.set h.rd h.lo _ _,qq h.grew hs (fun k hk=>by cases hk;exact h.lo),by constructor<;>simp[go_sem,c0,c1,c2,c3,c4,c5,f0,f1,f2,f3,f4,f5],h.lo,Nat.lt_of_lt_of_le h.lt hs.size,Nat.le_trans h.big hs.size⟩
end
theorem old_sz{C:Ctx}{w w1:World}(h:w.heap.size<=w1.heap.size):∀k,Old C w k->Old C w1 k:=fun k hk=>hk.imp id fun h'=>Nat.lt_of_lt_of_le h' h
theorem post_node{C:Ctx}{w0 wB w:World}{r:Res (List Tr)}{j:Nat}{ks:List Tr}{b:Option Addr}{cap:Nat}(n:Nd)(hr:r= .ok [.mk n ks] j)(hK:xp (Old C wB) w b cap ks)(hB:w0.heap.size<=wB.heap.size)(hR:Rd C j w)(hG:Grew C w0 w):
 zI C w0 r (isTree C w0) (.returned (.pointer (some ⟨w.heap.size+1,0,none⟩))) ((w.alloc (.cells #[.int .i64 n.depth, .int .i64 n.kind, .string n.name, .int .i64 n.num, .int .i64 n.op, .int .i64 n.at_] 50)).alloc (.cells #[.int .i64 n.depth, .int .i64 n.kind, .string n.name, .int .i64 n.num, .int .i64 n.op, .int .i64 n.at_, .slice b ks.length cap] 148)):=by
 have hK':xp (Old C w0) w b cap ks:=by
  obtain⟨g,q,h1,h2,h3,h4,h5⟩:=hK
  exact⟨g,q,h1,fun h h'=>h2 h (old_sz hB _ h'),h3,h4,fun j t hj=>(h5 j t hj).mono (old_sz hB)⟩
 exact⟨_,j,hr,⟨_,_,rfl,rfl,tr_leaf n hK' hR.lt hG.size⟩,(hR.alloc _).alloc _,grown_trans hG (grown_trans (World.grownBy_alloc _ _ _) (World.grownBy_alloc _ _ _))⟩
end Go.Proofs.YtonmcakdofbjiaaGreatDoor
