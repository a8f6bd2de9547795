/- A part. -/
import Derived.Test.YtonmcakdofbjiaaGreatDoorM6
set_option linter.all false
set_option maxRecDepth 100000
set_option maxHeartbeats 8000000
namespace Go.Bsd
open Go.Conc
section
variable {P:Program} {F:FuncId->Prop} {ρ:Rn} {α β:Type} {A:Rn->α->α->Prop} {B:Rn->β->β->Prop}
theorem zcq(m:String)(s':Sem α):SRel P F A ρ (unsupported (.noEntry m)) s':= .dead trivial
def uO(P:Program)(s d:TypeId):Bool:=
 match P.underlying s,P.underlying d with
 |some (.int _),some (.int _)=>true
 |some .string,some .string=>true
 |some .string,some (.slice e)=>(match P.underlying e with|some (.int .u8)=>true|_=>false)
 |some (.slice e),some .string=>(match P.underlying e with|some (.int .u8)=>true|_=>false)
 |_,_=>false
theorem uj{a a':Addr}(ha:ARel ρ a a'):SE P F ρ (markStringish a) (markStringish a'):=by
 unfold markStringish;refine(se_shape ha.block).eqs fun ρ₁ h₁ s=>?_;cases s with
 |none=>exact .pure rfl
 |some x=>exact .freeze ⟨h₁ _ _ ha.block,rfl,rfl⟩ (.pure rfl)
theorem sr_stringToBytes(e:TypeId)(s:ByteArray):SV P F ρ (Conv.stringToBytes e s) (Conv.stringToBytes e s):=by
 unfold Conv.stringToBytes;refine .choose fun n=>?_;refine sr_newRow (vsRel_gr fun v hv=>?_) fun r r'=>?_
 ·rcases Array.mem_append.1 hv with hv|hv
  ·obtain⟨b,_,rfl⟩:=Array.mem_map.1 hv
   exact fun F ρ=> .int _ _
  ·obtain rfl:=(Array.mem_replicate.1 hv).2;exact fun F ρ=> .int _ _
 ·exact(uj (qG r r' 0)).eqs fun ρ₁ h₁ _=> .pure (.slice _ _ (.some ((qG r r' 0).mono h₁)))
theorem zae{γ:Type}(f:Value->γ->Sem (ForInStep γ))(hf:∀(ρ:Rn) v v' acc,VRel F ρ v v'->SE P F ρ (f v acc) (f v' acc)):∀(l l':List Value) {ρ:Rn} (acc:γ),l.length=l'.length->(∀(j:Nat) v v',l[j]? =some v->l'[j]? =some v'->VRel F ρ v v')->
 SE P F ρ (forIn l acc f) (forIn l' acc f)
 |[],[],_,acc,_,_=> .pure rfl
 |[],_::_,_,_,h,_=>by simp at h
 |_::_,[],_,_,h,_=>by simp at h
 |x::l,y::l',ρ,acc,h,hv=>by
  simp only[List.forIn_cons];refine(hf ρ x y acc (hv 0 x y rfl rfl)).eqs fun ρ₁ h₁ r=>?_;cases r with
  |done a=>exact .pure rfl
  |yield a=>exact zae f hf l l' a (by simpa using h) fun j v v' e e'=>(hv (j+1) v v' e e').mono h₁
theorem sr_bytesToString{x x':Value}(hx:VRel F ρ x x'):SV P F ρ (Conv.bytesToString x) (Conv.bytesToString x'):=by
 unfold Conv.bytesToString;cases hx<;>first|exact .dead trivial|skip
 rename_i n m ha;cases ha with
 |none=>exact .pure (.string _)
 |some ha=>
  refine(jG ha n).bind fun ρ₁ h₁ c c' hc=>?_;rw[<-Array.forIn_toList,<-Array.forIn_toList];refine SRel.eqs (zae _ (fun ρ v v' acc hv=>?_) c.toList c'.toList _ (by simpa using hc.size) fun j v v' e e'=>hc.all j v v' (by simpa using e) (by simpa using e')) fun ρ₂ h₂ z=> .pure (.string _)
  cases hv<;>first|exact .dead trivial|skip
  rename_i k n;cases k<;>first|exact .dead trivial|exact .pure rfl
theorem sr_convert{s d:TypeId}(hok:uO P s d=true){x x':Value}(hx:VRel F ρ x x'):SV P F ρ (convert s d x) (convert s d x'):=by
 unfold convert;refine sr_underlying fun ds hs=>sr_underlying fun dd hd=>?_;unfold uO at hok;rw[hs,hd] at hok;cases ds<;>cases dd<;>first|(simp at hok;done)|skip
 ·cases hx<;>first
   |exact .pure (.int _ _)
   |exact .dead (by simp[deadHalt])
   |(cases ‹OpRel (ARel ρ) _ _› <;>exact .dead (by simp[deadHalt]))
 ·cases hx<;>first
   |exact .pure (.string _)
   |exact .pure (.string _)
   |exact .dead (by simp[deadHalt])
   |(cases ‹OpRel (ARel ρ) _ _› <;>exact .dead (by simp[deadHalt]))
 ·rename_i e;cases hx<;>first
   |exact .dead (by simp[deadHalt])
   |(cases ‹OpRel (ARel ρ) _ _› <;>exact .dead (by simp[deadHalt]);done)
   |skip
  ·refine sr_underlying fun de he=>?_;simp only[he] at hok;cases de<;>first|(simp at hok;done)|skip
   rename_i k;cases k<;>first|(simp at hok;done)|exact sr_stringToBytes _ _
 ·rename_i e;have main:SV P F ρ (do
   match<-underlying e with
   | .int .u8=>Conv.bytesToString x
   | .int .i32=>Conv.runesToString x
   |_=>stuck "Convert: a slice of what to string?") (do
   match<-underlying e with
   | .int .u8=>Conv.bytesToString x'
   | .int .i32=>Conv.runesToString x'
   |_=>stuck "Convert: a slice of what to string?"):=by
   refine sr_underlying fun de he=>?_;simp only[he] at hok;cases de<;>first|(simp at hok;done)|skip
   rename_i k;cases k<;>first|(simp at hok;done)|exact sr_bytesToString hx
  cases hx<;>first
   |exact main
   |(simp only[he] at main;exact main)
   |(cases ‹OpRel (ARel ρ) _ _› <;>exact main)
   |skip
  ·dsimp only [Conv.intToString]
   repeat' first
    |exact .pure (.string _)
    |exact .dead trivial
    |split
  ·exact .pure (.string _)
theorem sr_fieldAt{s:TypeId}{i:Nat}(hok:∀fs f ti,P.underlying s=some (.struct fs)->fs[i]? =some f->P.info? f.type=some ti->ti.size≠0){x x':Value}(hx:VRel F ρ x x'):SV P F ρ (Instr.fieldAt s x i) (Instr.fieldAt s x' i):=by
 unfold Instr.fieldAt;refine sr_underlying fun d hd=>?_;cases d<;>first|exact .dead trivial|skip
 rename_i fs;dsimp only;cases hf:fs[i]? with
 |none=>exact .dead trivial
 |some f=>
  dsimp only;refine sr_sureAddr hx fun a a' ha=>?_;unfold fieldPlace;rw[bind_assoc,bind_assoc];refine sr_sizeOf fun ti hti=>?_;rw[if_neg (hok fs f ti hd hf hti),if_neg (hok fs f ti hd hf hti)];exact .pure (.pointer (.some (ha.add _)))
theorem zcr(t:TypeId){x x' i i':Value}(hx:VRel F ρ x x')(hi:VRel F ρ i i'):SV P F ρ (Instr.indexAt t x i) (Instr.indexAt t x' i'):=by
 unfold Instr.indexAt;refine ju hi fun k n _ _=>?_;dsimp only;have tail:∀(b b':Option Addr) (len:Nat) (e:TypeId),OpRel (ARel ρ) b b'->SV P F ρ (do
  let tiny:=len<=1&&(match<-underlying t with| .array .. =>true|_=>false)
  match b with
  |some a=>
   if 0<=n/\n<len then pure (.pointer (some (a.add (n.toNat*(<-sizeOf e)))))
   else if tiny then unsupported (.noEntry "op/indexAddr.an index out of range at an array of length 0 or 1 (ledger 616)")
   else boundsPanic k n len .index
  |none=>boundsPanic k n 0 .index) (do
  let tiny:=len<=1&&(match<-underlying t with| .array .. =>true|_=>false)
  match b' with
  |some a=>
   if 0<=n/\n<len then pure (.pointer (some (a.add (n.toNat*(<-sizeOf e)))))
   else if tiny then unsupported (.noEntry "op/indexAddr.an index out of range at an array of length 0 or 1 (ledger 616)")
   else boundsPanic k n len .index
  |none=>boundsPanic k n 0 .index):=by
  intro b b' len e hb;refine sr_underlying fun d _=>?_;cases hb with
  |none=>exact xh _ _ _ _
  |some ha=>
   dsimp only;split
   ·exact sr_sizeOf fun ti _=> .pure (.pointer (.some (ha.add _)))
   ·repeat' first
     |exact zcq _ _
     |exact xh _ _ _ _
     |split
 refine sr_underlying fun d _=>?_;cases d<;>first|exact .dead trivial|skip
 ·cases hx<;>first
   |exact .dead trivial
   |skip
  exact tail _ _ _ _ ‹_›
 ·refine sr_sureAddr hx fun a a' ha=>?_;exact tail _ _ _ _ (.some ha)
theorem zdE(t:TypeId){x x':Value}(hx:VRel F ρ x x')(i:Nat):SV P F ρ (Instr.field t x i) (Instr.field t x' i):=by
 unfold Instr.field;refine sr_underlying fun d hd=>?_;cases d<;>first|exact .dead trivial|skip
 rename_i fs;dsimp only;cases fs[i]? with
 |none=>exact .dead trivial
 |some f=>exact sr_asAgg hx fun c c' hc=>xD hc _ _
theorem zdD(t:TypeId){x x' i i':Value}(hx:VRel F ρ x x')(hi:VRel F ρ i i'):SV P F ρ (Instr.index t x i) (Instr.index t x' i'):=by
 unfold Instr.index;refine ju hi fun k n _ _=>?_;dsimp only;refine sr_underlying fun d _=>?_;cases d<;>cases hx<;>first|exact .dead trivial|skip
 ·rename_i s;dsimp only;generalize (if 0<=n then s[n.toNat]? else none)=o;cases o with
  |none=>exact xh _ _ _ _
  |some b=>exact .pure (.int _ _)
 ·rename_i n1 h1;dsimp only;split
  ·exact sr_sizeOf fun ti _=>xD ⟨n1,h1⟩ _ _
  ·exact xh _ _ _ _
theorem yt{x x':Value}(hx:VRel F ρ x x')(y:Nat)(c:BoundsCode):SE P F ρ (Instr.sliceBound x y c) (Instr.sliceBound x' y c):=by
 unfold Instr.sliceBound;refine ju hx fun k n _ _=>?_;dsimp only;split
 ·exact .pure rfl
 ·exact xh _ _ _ _
theorem se_sliceBounds(b:Bool)(len cap:Nat){lo lo' hi hi' mx mx':Option Value}(hl:OpRel (VRel F ρ) lo lo')(hh:OpRel (VRel F ρ) hi hi')(hm:OpRel (VRel F ρ) mx mx'):
 SE P F ρ (Instr.sliceBounds b len cap lo hi mx) (Instr.sliceBounds b len cap lo' hi' mx'):=by
 unfold Instr.sliceBounds;cases hm with
 |none=>
  cases hh with
  |none=>
   cases hl with
   |none=>exact .pure rfl
   |some hl=>exact(yt hl _ _).eqs fun _ _ _=> .pure rfl
  |some hh=>
   cases hl with
   |none=>exact(yt hh _ _).eqs fun _ _ _=> .pure rfl
   |some hl=>exact(yt hh _ _).eqs fun ρ₁ h₁ _=>(yt (hl.mono h₁) _ _).eqs fun _ _ _=> .pure rfl
 |some hm=>
  refine(yt hm _ _).eqs fun ρ₁ h₁ m=>?_;cases hh with
  |none=>exact .dead trivial
  |some hh=>
   cases hl with
   |none=>exact(yt (hh.mono h₁) _ _).eqs fun _ _ _=> .pure rfl
   |some hl=>exact(yt (hh.mono h₁) _ _).eqs fun ρ₂ h₂ _=>(yt ((hl.mono h₁).mono h₂) _ _).eqs fun _ _ _=> .pure rfl
def vI(P:Program)(t:TypeId):Bool:=match P.underlying t with|some .string|some (.slice _)|some (.array _ _)=>true|_=>false
theorem zco{t:TypeId}(hok:vI P t=true){x x':Value}(hx:VRel F ρ x x'){lo lo' hi hi' mx mx':Option Value}(hl:OpRel (VRel F ρ) lo lo')(hh:OpRel (VRel F ρ) hi hi')(hm:OpRel (VRel F ρ) mx mx'):
 SV P F ρ (Instr.sliceAt t x lo hi mx) (Instr.sliceAt t x' lo' hi' mx'):=by
 unfold Instr.sliceAt;refine sr_underlying fun d hd=>?_;unfold vI at hok;rw[hd] at hok;have main:(∀n e,d≠ .array n e)->SV P F ρ (Instr.slice t x lo hi mx) (Instr.slice t x' lo' hi' mx'):=by
  intro hna;unfold Instr.slice;refine sr_underlying fun d' hd'=>?_;rw[hd] at hd';cases hd';cases d<;>first|(simp at hok;done)|exact absurd rfl (hna _ _)|skip
  ·cases hx<;>first|exact .dead trivial|skip
   dsimp only;have e:mx.isSome=mx'.isSome:=by cases hm<;>rfl
   rw[e];split
   ·exact SRel.dead (h:= .stuck _) trivial
   ·exact(se_sliceBounds _ _ _ hl hh .none).eqs fun ρ₁ h₁ y=> .pure (.string _)
  ·cases hx<;>first|exact .dead trivial|skip
   rename_i a a' n m ha;dsimp only;refine(se_sliceBounds _ _ _ hl hh hm).eqs fun ρ₁ h₁ y=>?_;obtain⟨l,h,m⟩:=y
   dsimp only;refine sr_sizeOf fun ti _=> .pure (.slice _ _ ?_);have ha':=ha.mono (fun _ _=>ARel.mono h₁);split
   ·exact ha'
   ·cases ha' with
    |none=>exact .none
    |some k=>exact .some (k.add _)
 have arr:∀n elem,d= .array n elem->SV P F ρ (do
  let a<-Instr.sureAddr x
  let (l,h,m)<-Instr.sliceBounds false n n lo hi mx
  let size<-sizeOf elem
  pure (.slice (some (if m=l then a else a.add (l*size))) (h-l) (m-l))) (do
  let a<-Instr.sureAddr x'
  let (l,h,m)<-Instr.sliceBounds false n n lo' hi' mx'
  let size<-sizeOf elem
  pure (.slice (some (if m=l then a else a.add (l*size))) (h-l) (m-l))):=by
  intro n elem _;refine sr_sureAddr hx fun a a' ha=>?_;refine(se_sliceBounds _ _ _ hl hh hm).eqs fun ρ₁ h₁ y=>?_;obtain⟨l,h,m⟩:=y
  dsimp only;refine sr_sizeOf fun ti _=> .pure (.slice _ _ (.some ?_));split
  ·exact ha.mono h₁
  ·exact(ha.mono h₁).add _
 cases d<;>first|(simp at hok;done)|exact main (by simp)|exact arr _ _ rfl
theorem sr_extract{x x':Value}(hx:VRel F ρ x x')(i:Nat):SV P F ρ (Instr.extract x i) (Instr.extract x' i):=by
 unfold Instr.extract;cases hx<;>first|exact .dead trivial|skip
 rename_i cs cs' n h;dsimp only;have:=(⟨n,h⟩:VsRel F ρ cs cs').get i
 generalize cs[i]? =u,cs'[i]? =v at this;cases this with
 |none=>exact .dead trivial
 |some k=>exact .pure k
theorem ul(t:TypeId){x x':Value}(hx:VRel F ρ x x'):SV P F ρ (Instr.makeInterface t x) (Instr.makeInterface t x'):=by
 unfold Instr.makeInterface;refine sr_underlying fun d _=>?_;cases d<;>first|exact .dead trivial|exact .pure (.iface _ hx)
theorem sr_typeAssert{x x':Value}(hx:VRel F ρ x x')(xt:TypeId){t:TypeId}(hz:ZGr P t)(hi:(∃ms,P.underlying t=some (.interface ms))\/vL.contains t=false):SV P F ρ (Instr.typeAssert x xt t true) (Instr.typeAssert x' xt t true):=by
 unfold Instr.typeAssert;have holds:∀{ρ:Rn} {v v':Value},VRel F ρ v v'->SV P F ρ (pure (if true=true then .tuple #[v, .bool true] else v)) (pure (if true=true then .tuple #[v', .bool true] else v')):=fun h=> .pure (.tuples ((VsRel.empty.push h).push (.bool _)));have fails:∀(st dy:Option TypeId) (m:String),SV P F ρ (if true=true then do pure (.tuple #[<-zeroValue t, .bool false]) else runtimePanic (.typeAssertion st dy t m)) (if true=true then do pure (.tuple #[<-zeroValue t, .bool false]) else runtimePanic (.typeAssertion st dy t m)):=by
  intro st dy m;exact sr_zero hz fun v hv=> .pure (.tuples ((VsRel.empty.push (hv F ρ)).push (.bool _)))
 refine sr_underlying fun d hd=>?_;by_cases hdi:∃ms,d= .interface ms
 ·obtain⟨ms,rfl⟩:=hdi
  cases hx<;>first
   |exact .dead trivial
   |exact fails _ _ _
   |skip
  case iface tt v v' hv=>
   dsimp only;refine zQ fun i _=>?_;cases Instr.missingMethod ms i.methods with
   |none=>exact holds (.iface _ hv)
   |some m=>exact fails _ _ _
  case far tt b o ht=>
   dsimp only;refine zQ fun i _=>?_;cases Instr.missingMethod ms i.methods with
   |none=>exact holds (.far _ _ _ ht)
   |some m=>exact fails _ _ _
 ·have hno:vL.contains t=false:=by
   rcases hi with⟨ms,hms⟩|h
   ·rw[hms] at hd;exact absurd ⟨ms,(Option.some.inj hd).symm⟩ hdi
   ·exact h
  cases d<;>first|exact absurd ⟨_,rfl⟩ hdi|skip
  all_goals (cases hx<;>first
   |exact .dead trivial
   |exact fails _ _ _
   |(dsimp only;split;· exact holds ‹_›
     ·exact fails _ _ _
     done)
   |skip)
  all_goals
   rename_i tt b o ht;dsimp only;split
   ·rename_i e;exfalso;first|(subst e;rw[hno] at ht;cases ht)|(rw[<-e] at hno;rw[hno] at ht;cases ht)
   ·exact fails _ _ _
theorem se_panicnil:SE P F ρ Instr.panicnil Instr.panicnil:=by
 unfold Instr.panicnil sys;refine .env fun r=>?_;cases r<;>first
  |exact .dead trivial
  |exact .program (.pure rfl)
theorem sr_panic{x x':Value}(hx:VRel F ρ x x'):SV P F ρ (Instr.panic x) (Instr.panic x'):=by
 unfold Instr.panic;cases hx<;>first|exact .dead trivial|exact .panic (.iface _ ‹_›)|exact .panic (.far _ _ _ ‹_›)|skip
 refine se_panicnil.eqs fun ρ₁ h₁ n=>?_;split
 ·exact .panic .nilIface
 ·exact zv trivial
theorem zac{z:Array Value}(h:VsRel F ρ z z)(n:Nat):VsRel F ρ (Builtin.zeroCells z n) (Builtin.zeroCells z n):=by
 unfold Builtin.zeroCells;refine vsRel_each fun v hv=>?_;obtain⟨i,_,rfl⟩:=Array.mem_map.1 hv
 exact vr_bang h _
theorem qm{x x':Value}(hx:VRel F ρ x x')(size n:Nat):SRel P F (fun ρ v v'=>VsRel F ρ v v') ρ (Builtin.firstCells size n x) (Builtin.firstCells size n x'):=by
 unfold Builtin.firstCells;cases hx<;>first|exact .dead trivial|skip
 ·refine .pure (vsRel_gr fun v hv=>?_);obtain⟨b,_,rfl⟩:=Array.mem_map.1 hv
  exact fun F ρ=> .int _ _
 ·cases ‹OpRel (ARel ρ) _ _› with
  |none=>exact .pure .empty
  |some ha=>exact jG ha _
theorem sr_lenOf{x x':Value}(hx:VRel F ρ x x'){f f':Nat->Sem β}(h:∀n,SRel P F B ρ (f n) (f' n)):SRel P F B ρ (Builtin.lenOf x >>= f) (Builtin.lenOf x' >>= f'):=by
 cases hx<;>first|exact h _|exact .dead trivial
theorem se_holdsCells{a a':Addr}(ha:ARel ρ a a')(n:Nat):SE P F ρ (Builtin.holdsCells a n) (Builtin.holdsCells a' n):=by
 unfold Builtin.holdsCells;refine(se_shape ha.block).eqs fun ρ₁ h₁ s=>?_;cases s with
 |none=>exact .pure rfl
 |some x=>rw[ha.spot,ha.off];exact .pure rfl
theorem zbd(size sLen n:Nat){b b':Option Addr}(hb:OpRel (ARel ρ) b b'){x x':Value}(hx:VRel F ρ x x'):SE P F ρ (Builtin.mayShare size sLen n b x) (Builtin.mayShare size sLen n b' x'):=by
 unfold Builtin.mayShare;have tail:∀{ρ:Rn} {b b':Option Addr} {x x':Value} (there:Bool),OpRel (ARel ρ) b b'->VRel F ρ x x'->SE P F ρ (do
  if !there then return true
  match x with
  | .slice (some c) _ _=>do pure (!(<-Builtin.holdsCells c (n*size)) || b.any (·.block==c.block))
  |_=>pure false) (do
  if !there then return true
  match x' with
  | .slice (some c) _ _=>do pure (!(<-Builtin.holdsCells c (n*size)) || b'.any (·.block==c.block))
  |_=>pure false):=by
  intro ρ b b' x x' there hb hx;refine .use fun h1=>?_;cases there
  ·exact .pure rfl
  ·cases hx<;>try exact .pure rfl
   cases ‹OpRel (ARel ρ) _ _› with
   |none=>exact .pure rfl
   |some hc=>
    refine(se_holdsCells hc _).eqs fun ρ₁ h₁ z=> .pure ?_;cases hb with
    |none=>rfl
    |some ha=>simp only[Option.any_some];rw[jX h1 ha hc]
 cases hb with
 |none=>exact tail true .none hx
 |some ha=>
  refine(se_holdsCells ha _).eqs fun ρ₁ h₁ y=>?_;refine(jh ((ha.mono h₁).add _)).eqs fun ρ₂ h₂ z=>?_;exact tail _ (.some ((ha.mono h₁).mono h₂)) ((hx.mono h₁).mono h₂)
def zgB(P:Program)(t:TypeId):Prop:=ZGr P t
theorem sr_askRoom(n:Nat):SE P F ρ (askRoom n) (askRoom n):=by
 unfold askRoom;split
 ·exact .mark (.inl rfl) (.pure rfl)
 ·exact .pure rfl
def kz(P:Program)(ts:Array TypeId):Prop:=
 (∀s e,ts[0]? =some s->P.underlying s=some (.slice e)->ZGr P e)/\∀x k,ts[1]? =some x->P.underlying x≠some (.int k)
theorem sr_append{ts:Array TypeId}(hok:kz P ts)(t:TypeId){as as':Array Value}(ha:VsRel F ρ as as'):SV P F ρ (Builtin.append_ ts t as) (Builtin.append_ ts t as'):=by
 unfold Builtin.append_;have h0:=ha.get 0;have h1:=ha.get 1;generalize as[0]? =a0,as'[0]? =a0',as[1]? =a1,as'[1]? =a1' at h0 h1;cases hs:ts[0]? with
 |none=>exact .dead trivial
 |some sT=>
  cases h0 with
  |none=>exact .dead trivial
  |some hs0=>
   cases h1 with
   |none=>exact .dead trivial
   | @some x x' hx=>
     dsimp only;refine sr_underlying fun d hd=>?_;cases d<;>first|exact .dead trivial|skip
     rename_i elem;have hz:=hok.1 sT elem hs hd;cases hs0<;>first|exact .dead trivial|skip
     rename_i base base' sLen sCap hb;dsimp only;refine sr_sizeOf fun ti hti=>?_;have go:SV P F ρ (do
      let n<-Builtin.lenOf x
      let need:=sLen+n
      if need<=sCap then
       let new<-Builtin.firstCells ti.size n x
       if let some a:=base then storeCells (a.add (sLen*ti.size)) new.toList
       pure (.slice base need sCap)
      else
       if (need:Int)>IntKind.i64.max/\(false\/(<-typeInfo elem).bytes=0) then runtimePanic (.error "growslice: len out of range")
       if Builtin.nextslicecap need sCap*(<-typeInfo elem).bytes>2 ^ 48 then (if false then runtimePanic (.error "growslice: len out of range") else do
        if !(<-Builtin.mayShare ti.size sLen n base x) then mark .noRoom
        unsupported (.resourceLimit "append: a slice or a string whose bytes no memory bears"))
       let newCap<-choose (.appendCap need sCap elem)
       askRoom (newCap*(<-typeInfo elem).bytes)
       let old<-Builtin.firstCells ti.size sLen (.slice base sLen sCap)
       let new<-Builtin.firstCells ti.size n x
       let rest:=Builtin.zeroCells (<-zeroValue elem).cells (newCap-need)
       pure (.slice (some (<-newRow elem (old++new++rest))) need newCap)) (do
      let n<-Builtin.lenOf x'
      let need:=sLen+n
      if need<=sCap then
       let new<-Builtin.firstCells ti.size n x'
       if let some a:=base' then storeCells (a.add (sLen*ti.size)) new.toList
       pure (.slice base' need sCap)
      else
       if (need:Int)>IntKind.i64.max/\(false\/(<-typeInfo elem).bytes=0) then runtimePanic (.error "growslice: len out of range")
       if Builtin.nextslicecap need sCap*(<-typeInfo elem).bytes>2 ^ 48 then (if false then runtimePanic (.error "growslice: len out of range") else do
        if !(<-Builtin.mayShare ti.size sLen n base' x') then mark .noRoom
        unsupported (.resourceLimit "append: a slice or a string whose bytes no memory bears"))
       let newCap<-choose (.appendCap need sCap elem)
       askRoom (newCap*(<-typeInfo elem).bytes)
       let old<-Builtin.firstCells ti.size sLen (.slice base' sLen sCap)
       let new<-Builtin.firstCells ti.size n x'
       let rest:=Builtin.zeroCells (<-zeroValue elem).cells (newCap-need)
       pure (.slice (some (<-newRow elem (old++new++rest))) need newCap)):=by
      refine sr_lenOf hx fun n=>?_;dsimp only;split
      ·refine(qm hx _ _).bind fun ρ₁ h₁ c c' hc=>?_;cases hb with
       |none=>exact .pure (.slice _ _ .none)
       |some ha=>exact(j7 ((ha.mono h₁).add _) hc 0).eqs fun ρ₂ h₂ _=> .pure (.slice _ _ (.some ((ha.mono h₁).mono h₂)))
      ·refine zQ fun i1 _=>?_;split
       ·exact(zv (A:=fun _ _ _=>False) (e:= .error "growslice: len out of range") trivial).bind fun _ _ _ _ h=>h.elim
       ·refine zQ fun i2 _=>?_;split
        ·simp only[Bool.false_eq_true,if_false];rw[bind_assoc,bind_assoc];refine(zbd _ _ _ hb hx).eqs fun ρ₁ h₁ b=>?_;cases b
         ·exact .mark (.inl rfl) (.dead trivial)
         ·exact .dead trivial
        ·refine .choose fun k=>?_;refine zQ fun i3 _=>?_;refine(sr_askRoom _).eqs fun ρ₁ h₁ _=>?_;have hb1:OpRel (ARel ρ₁) base base':=hb.mono fun _ _=>ARel.mono h₁;refine(qm (.slice _ _ hb1) _ _).bind fun ρ₂ h₂ c c' hc=>?_;refine(qm ((hx.mono h₁).mono h₂) _ _).bind fun ρ₃ h₃ u u' hu=>?_;refine sr_zero hz fun z hz'=>?_;refine sr_newRow (((hc.mono h₃).append hu).append (zac (hz' F ρ₃).cells _)) fun r r'=>?_;exact .pure (.slice _ _ (.some (qG r r' 0)))
     cases hx1:ts[1]? with
     |none=>exact go
     |some xT=>
      refine sr_underlying fun dx hdx=>?_;cases dx<;>first|exact go|exact absurd hdx (hok.2 xT _ hx1)
def okLen(P:Program)(ts:Array TypeId):Bool:=match ts[0]? with|some t=>(match P.underlying t with|some .string|some (.slice _)=>true|_=>false)|none=>true
theorem sr_len{ts:Array TypeId}(hok:okLen P ts=true)(t:TypeId){as as':Array Value}(ha:VsRel F ρ as as'):SV P F ρ (Builtin.len_ ts t as) (Builtin.len_ ts t as'):=by
 unfold Builtin.len_;have h0:=ha.get 0;generalize as[0]? =a0,as'[0]? =a0' at h0;unfold okLen at hok;cases hs:ts[0]? with
 |none=>exact .dead trivial
 |some sT=>
  rw[hs] at hok;cases h0 with
  |none=>exact .dead trivial
  |some hx=>
   dsimp only;refine sr_underlying fun d hd=>?_;simp only[hd] at hok;cases d<;>first|(simp at hok;done)|skip
   ·cases hx<;>first|exact .dead trivial|exact .pure (.int _ _)
   ·cases hx<;>first|exact .dead trivial|exact .pure (.int _ _)
theorem sr_makeSlice{t:TypeId}(hz:∀e,P.underlying t=some (.slice e)->ZGr P e){x x' y y':Value}(hx:VRel F ρ x x')(hy:VRel F ρ y y'):SV P F ρ (Instr.makeSlice t x y) (Instr.makeSlice t x' y'):=by
 unfold Instr.makeSlice;refine sr_underlying fun d hd=>?_;cases d<;>first|exact .dead trivial|skip
 rename_i elem;have hze:=hz elem hd;refine sr_asInt hx fun len=>sr_asInt hy fun cap=>zQ fun ti hti=>?_;dsimp only;have tail:∀ρ:Rn,SV P F ρ (do
  askRoom ((IntKind.i64.wrap cap).toNat*ti.bytes)
  let n:=(IntKind.i64.wrap cap).toNat*(<-sizeOf elem)
  let zero<-if n=0 then pure #[] else do pure (<-zeroValue elem).cells
  let a<-newRow elem ((Array.range n).map (zero[· % zero.size]!))
  pure (.slice (some a) (IntKind.i64.wrap len).toNat (IntKind.i64.wrap cap).toNat)) (do
  askRoom ((IntKind.i64.wrap cap).toNat*ti.bytes)
  let n:=(IntKind.i64.wrap cap).toNat*(<-sizeOf elem)
  let zero<-if n=0 then pure #[] else do pure (<-zeroValue elem).cells
  let a<-newRow elem ((Array.range n).map (zero[· % zero.size]!))
  pure (.slice (some a) (IntKind.i64.wrap len).toNat (IntKind.i64.wrap cap).toNat)):=by
  intro ρ;refine(sr_askRoom _).eqs fun ρ₁ h₁ _=>sr_sizeOf fun tj _=>?_;dsimp only;have row:∀(z:Array Value),(∀F ρ,VsRel F ρ z z)->SV P F ρ₁ (do
   let a<-newRow elem ((Array.range ((IntKind.i64.wrap cap).toNat*tj.size)).map (z[· % z.size]!))
   pure (.slice (some a) (IntKind.i64.wrap len).toNat (IntKind.i64.wrap cap).toNat)) (do
   let a<-newRow elem ((Array.range ((IntKind.i64.wrap cap).toNat*tj.size)).map (z[· % z.size]!))
   pure (.slice (some a) (IntKind.i64.wrap len).toNat (IntKind.i64.wrap cap).toNat)):=by
   intro z hzz;refine sr_newRow (vsRel_each fun v hv=>?_) fun r r'=> .pure (.slice _ _ (.some (qG r r' 0)));obtain⟨i,_,rfl⟩:=Array.mem_map.1 hv
   exact vr_bang (hzz F ρ₁) _
  by_cases h0:(IntKind.i64.wrap cap).toNat*tj.size=0
  ·rw[if_pos h0];exact row #[] fun F ρ=> .empty
  ·rw[if_neg h0];exact sr_zero hze fun v hv=>row v.cells fun F ρ=>zga hv F ρ
 repeat' first
  |exact tail _
  |split
 ·refine SRel.bind (A:=fun _ (_ _:PUnit)=>True) (zv trivial) fun ρ₁ _ _ _ _=>?_;exact tail ρ₁
 ·refine SRel.bind (A:=fun _ (_ _:PUnit)=>True) (zv trivial) fun ρ₁ _ _ _ _=>?_;exact tail ρ₁
 ·refine SRel.eqs (SRel.choose fun z=> .pure rfl) fun ρ₁ _ z=>?_;refine SRel.bind (A:=fun _ (_ _:PUnit)=>True) (zv trivial) fun ρ₁ _ _ _ _=>?_;exact tail ρ₁
theorem sr_copy(ts:Array TypeId)(t:TypeId){as as':Array Value}(ha:VsRel F ρ as as'):SV P F ρ (Builtin.copy_ ts t as) (Builtin.copy_ ts t as'):=by
 unfold Builtin.copy_;have h0:=ha.get 0;have h1:=ha.get 1;generalize as[0]? =a0,as'[0]? =a0',as[1]? =a1,as'[1]? =a1' at h0 h1;cases ts[0]? with
 |none=>exact .dead trivial
 |some dT=>
  cases h0 with
  |none=>exact .dead trivial
  |some hd=>
   cases h1 with
   |none=>exact .dead trivial
   |some hs=>
    dsimp only;refine sr_underlying fun d _=>?_;cases d<;>first|exact .dead trivial|skip
    cases hd<;>first|exact .dead trivial|skip
    rename_i n m hb;dsimp only;refine sr_lenOf hs fun k=>sr_sizeOf fun ti _=>?_;refine(qm hs _ _).bind fun ρ₁ h₁ c c' hc=>?_;cases hb with
    |none=>exact .pure (.int _ _)
    |some hb=>exact(j7 (hb.mono h₁) hc 0).eqs fun _ _ _=> .pure (.int _ _)
theorem sr_loadBytes:∀(n:Nat) {ρ:Rn} {a a':Addr} (acc:ByteArray),ARel ρ a a'->SE P F ρ (loadBytes a acc n) (loadBytes a' acc n)
 |0,_,_,_,_,_=> .pure rfl
 |n+1,ρ,a,a',acc,ha=>by
  unfold loadBytes;refine .load ha fun v v' hv=>?_;cases hv<;>first|exact .dead trivial|skip
  rename_i k z;cases k<;>first|exact .dead trivial|exact sr_loadBytes n _ (ha.add 1)
theorem se_variablesAt{a a':Addr}(ha:ARel ρ a a')(u:TypeId)(n:Nat):SE P F ρ (variablesAt a u n) (variablesAt a' u n):=by
 unfold variablesAt;refine sr_program ((se_shape ha.block).eqs fun ρ₁ h₁ s=>?_);cases s with
 |none=>exact .pure rfl
 |some x=>rw[ha.off];exact .pure rfl
theorem sr_unsafeString(ts:Array TypeId)(t:TypeId){as as':Array Value}(ha:VsRel F ρ as as'):SV P F ρ (Builtin.unsafeString_ ts t as) (Builtin.unsafeString_ ts t as'):=by
 unfold Builtin.unsafeString_;obtain⟨l⟩:=as
 obtain⟨l'⟩:=as'
 have hsz:l.length=l'.length:=ha.size;rcases l with _|⟨x,_|⟨y,_|⟨z,l⟩⟩⟩
 ·exact .dead trivial
 ·cases x<;>exact .dead trivial
 ·rcases l' with _|⟨x',_|⟨y',_|⟨z',l'⟩⟩⟩
  ·simp at hsz
  ·simp at hsz
  ·have hx:=ha.all 0 x x' rfl rfl;have hy:=ha.all 1 y y' rfl rfl;cases hx<;>first|exact .dead trivial|skip
   rename_i pa pa' hp;refine sr_asInt hy fun n=>?_;cases ts[0]? with
   |none=>exact .dead trivial
   |some pt=>
    dsimp only;have tail:∀(ρ₁:Rn),Ext ρ ρ₁->SV P F ρ₁ (match (generalizing:=false) pa with
     |none=>
      if n=0 then pure (Value.string ByteArray.empty)
      else runtimePanic (RuntimeError.error "unsafe.String: ptr is nil and len is not zero")
     |some a=>
      if n=0 then pure (Value.string ByteArray.empty)
      else do
       if<-variablesAt a (<-elemOf pt) n.toNat then do
        let s<-loadBytes a ByteArray.empty n.toNat
        freeze a n.toNat
        pure (Value.string s)
        else unsupported (Unsupported.unsafePointer "String: not so many bytes at ptr")) (match (generalizing:=false) pa' with
     |none=>
      if n=0 then pure (Value.string ByteArray.empty)
      else runtimePanic (RuntimeError.error "unsafe.String: ptr is nil and len is not zero")
     |some a=>
      if n=0 then pure (Value.string ByteArray.empty)
      else do
       if<-variablesAt a (<-elemOf pt) n.toNat then do
        let s<-loadBytes a ByteArray.empty n.toNat
        freeze a n.toNat
        pure (Value.string s)
        else unsupported (Unsupported.unsafePointer "String: not so many bytes at ptr")):=by
     intro ρ₁ h₁;cases hp with
     |none=>
      dsimp only;split
      ·exact .pure (.string _)
      ·exact zv trivial
     |some hp=>
      dsimp only;split
      ·exact .pure (.string _)
      ·refine sr_elemOf fun e=>(se_variablesAt (hp.mono h₁) e _).eqs fun ρ₂ h₂ b=>?_;cases b
       ·exact .dead trivial
       ·refine(sr_loadBytes _ _ ((hp.mono h₁).mono h₂)).eqs fun ρ₃ h₃ s=>?_;exact .freeze (((hp.mono h₁).mono h₂).mono h₃) (.pure (.string _))
    split
    ·exact SRel.bind (A:=fun _ (_ _:PUnit)=>True) (zv trivial) fun ρ₁ h₁ _ _ _=>(by
      split
      ·exact SRel.bind (A:=fun _ (_ _:PUnit)=>True) (.dead trivial) fun ρ₂ h₂ _ _ _=>tail ρ₂ (h₁.trans h₂)
      ·exact tail ρ₁ h₁)
    ·split
     ·exact SRel.bind (A:=fun _ (_ _:PUnit)=>True) (.dead trivial) fun ρ₂ h₂ _ _ _=>tail ρ₂ h₂
     ·exact tail ρ (Ext.refl _)
  ·simp at hsz
 ·cases x<;>exact .dead trivial
end
def OkA(F:FuncId->Prop)(G:Nat->Prop):Operand->Prop
 | .tmp _=>True
 | .const v=>Gr v
 | .func f=>F f
 | .global g=>G g
def wA(P:Program)(F:FuncId->Prop)(G:Nat->Prop)(c:Call):Prop:=
 (∀x∈c.args,OkA F G x)/\match c.callee with
 | .value f=>OkA F G f
 | .builtin .len=>okLen P c.argTypes=true
 | .builtin .append=>kz P c.argTypes
 | .builtin .recover=>True
 | .builtin .copy=>True
 | .builtin .unsafeString=>True
 |_=>False
def OkOp(P:Program)(F:FuncId->Prop)(G:Nat->Prop)(D:Bool->Prop):Op->Prop
 | .move x| .assign x=>OkA F G x
 | .pick c a b=>OkA F G c/\OkA F G a/\OkA F G b
 | .alloc e=>ZGr P e
 | .box _ x=>OkA F G x
 | .build t ps=>ZGr P t/\∀x∈ps,OkA F G x.2
 | .buildSlice t _ ps=>(∀e,P.underlying t=some (.slice e)->ZGr P e)/\∀x∈ps,OkA F G x.2
 | .load _ a=>OkA F G a
 | .store _ a x=>OkA F G a/\OkA F G x
 | .binOp _ _ x y _=>OkA F G x/\OkA F G y
 | .unOp _ _ x=>OkA F G x
 | .convert s d x=>uO P s d=true/\OkA F G x
 | .makeInterface _ x=>OkA F G x
 | .makeFunc (.func f) fs cs=>F f/\(∀x∈fs,OkA F G x)/\∀x∈cs,OkA F G x
 | .makeSlice t l c=>(∀e,P.underlying t=some (.slice e)->ZGr P e)/\OkA F G l/\OkA F G c
 | .slice t x lo hi mx=>vI P t=true/\OkA F G x/\(∀y∈lo,OkA F G y)/\(∀y∈hi,OkA F G y)/\∀y∈mx,OkA F G y
 | .fieldAddr s x i=>(∀fs f ti,P.underlying s=some (.struct fs)->fs[i]? =some f->P.info? f.type=some ti->ti.size≠0)/\OkA F G x
 | .field _ x _=>OkA F G x
 | .indexAddr _ x i=>OkA F G x/\OkA F G i
 | .index _ x i=>OkA F G x/\OkA F G i
 | .typeAssert x _ t ok=>ok=true/\(ZGr P t/\((∃ms,P.underlying t=some (.interface ms))\/vL.contains t=false))/\OkA F G x
 | .extract x _=>OkA F G x
 | .call c=>wA P F G c
 | .defer c=>wA P F G c
 | .panic x=>OkA F G x
 | .send c x=>D true/\OkA F G c/\OkA F G x
 | .recv t c _=>D false/\(∀d e,P.underlying t=some (.chan d e)->ZGr P e)/\OkA F G c
 |_=>False
inductive TRel (F:FuncId->Prop) (ρ:Rn):Target->Target->Prop
 |fn {f:FuncId} {cs cs':Array Value} (hf:F f) (h:VsRel F ρ cs cs'):TRel F ρ (.fn (.func f) cs) (.fn (.func f) cs')
 |nil:TRel F ρ .nil .nil
 |builtin (b:Builtin) (ts:Array TypeId) (t:TypeId) (c:Array Bool):TRel F ρ (.builtin b ts t c) (.builtin b ts t c)
structure DRel (F:FuncId->Prop) (ρ:Rn) (d d':Deferred):Prop where
 target:TRel F ρ d.target d'.target
 args:VsRel F ρ d.args d'.args
def OkD(P:Program)(d:Deferred):Prop:=match d.target with
 | .builtin .len ts _ _=>okLen P ts=true
 | .builtin .append ts _ _=>kz P ts
 | .builtin .recover _ _ _=>True
 | .builtin .copy _ _ _=>True
 | .builtin .unsafeString _ _ _=>True
 | .builtin .. =>False
 |_=>True
structure CRel (F:FuncId->Prop) (ρ:Rn) (c c':CommCase):Prop where
 chan:VRel F ρ c.chan c'.chan
 send:OpRel (VRel F ρ) c.send c'.send
 zero:VRel F ρ c.zero c'.zero
inductive CsRel (F:FuncId->Prop) (D:Bool->Prop) (ρ:Rn):Array CommCase->Array CommCase->Prop
 |one {c c':CommCase} (h:CRel F ρ c c') (hd:D c.send.isSome):CsRel F D ρ #[c] #[c']
def ShOk(cs:Array CommCase):CommShape->Prop
 | .send=>∀x∈cs,x.send.isSome=true
 | .recv _=>∀x∈cs,x.send=none
 | .select=>False
inductive NRel (P:Program) (F:FuncId->Prop) (D:Bool->Prop) (ρ:Rn):Next->Next->Prop
 |value {v v':Value} (h:VRel F ρ v v'):NRel P F D ρ (.value v) (.value v')
 |skip:NRel P F D ρ .skip .skip
 |enter {f:FuncId} {as as':Array Value} (hf:F f) (h:VsRel F ρ as as'):NRel P F D ρ (.enter f as) (.enter f as')
 |defer {d d':Deferred} (h:DRel F ρ d d') (ok:OkD P d):NRel P F D ρ (.defer d) (.defer d')
 |recover:NRel P F D ρ .recover .recover
 |comm {cs cs':Array CommCase} (s:CommShape) (h:CsRel F D ρ cs cs') (hsh:ShOk cs s):NRel P F D ρ (.comm cs true s) (.comm cs' true s)
section
variable {P:Program} {F:FuncId->Prop} {G:Nat->Prop} {D:Bool->Prop} {ρ:Rn} {α β:Type} {A:Rn->α->α->Prop} {B:Rn->β->β->Prop}
theorem TRel.mono{ρ':Rn}(h:Ext ρ ρ'){t t':Target}(x:TRel F ρ t t'):TRel F ρ' t t':=by
 cases x with
 |fn hf k=>exact .fn hf (k.mono h)
 |nil=>exact .nil
 |builtin=>exact .builtin _ _ _ _
theorem DRel.mono{ρ':Rn}(h:Ext ρ ρ'){t t':Deferred}(x:DRel F ρ t t'):DRel F ρ' t t':=⟨x.target.mono h,x.args.mono h⟩
def vQ(P:Program)(F:FuncId->Prop):Prop:=∀f,F f->∃fn,P.funcs[f]? =some fn/\(fn.name== "runtime.NumGoroutine")=false/\fn.body.isNone=false
def ERel(F:FuncId->Prop)(G:Nat->Prop)(ρ:Rn)(e e':Operand->Value):Prop:=∀x,OkA F G x->VRel F ρ (e x) (e' x)
theorem kV{e e':Operand->Value}(he:ERel F G ρ e e'){xs:Array Operand}(h:∀x∈xs,OkA F G x):VsRel F ρ (xs.map e) (xs.map e'):=qK fun i=>by
 rw[Array.getElem?_map,Array.getElem?_map];cases hx:xs[i]? with
 |none=>exact .none
 |some x=>exact .some (he x (h x (Array.mem_of_getElem? hx)))
theorem vj{e e':Operand->Value}(he:ERel F G ρ e e'){x:Option Operand}(h:∀y∈x,OkA F G y):OpRel (VRel F ρ) (x.map e) (x.map e'):=by
 cases x with
 |none=>exact .none
 |some y=>exact .some (he y (h y rfl))
abbrev SN(P:Program)(F:FuncId->Prop)(D:Bool->Prop)(ρ:Rn)(s s':Sem Next):Prop:=SRel P F (fun ρ a a'=>NRel P F D ρ a a') ρ s s'
theorem sn_value{s s':Sem Value}(h:SV P F ρ s s'):SN P F D ρ (do pure (.value (<-s))) (do pure (.value (<-s'))):=h.bind fun _ _ _ _ k=> .pure (.value k)
theorem zhq{s s':Sem Unit}(h:SE P F ρ s s'):SN P F D ρ (do s;pure .skip) (do s';pure .skip):=h.bind fun _ _ _ _ _=> .pure .skip
theorem za9(hF:vQ P F){f:FuncId}(hf:F f){as as':Array Value}(h:VsRel F ρ as as'):SN P F D ρ (callFunc f as) (callFunc f as'):=by
 obtain⟨fn,h1,h2,h3⟩:=hF f hf
 unfold callFunc;refine sr_program ?_;rw[h1];dsimp only;rw[if_neg (by simp[h2]),if_neg (by simp[h3]),if_neg (by simp[h2]),if_neg (by simp[h3])]
 exact .pure (.enter hf h)
theorem gf(hF:vQ P F){d d':Deferred}(hd:DRel F ρ d d')(hok:OkD P d):SN P F D ρ (invoke d.target d.args) (invoke d'.target d'.args):=by
 obtain⟨t,as⟩:=d
 obtain⟨t',as'⟩:=d'
 obtain⟨ht,ha⟩:=hd
 simp only at ht ha
 unfold OkD at hok;cases ht with
 |fn hf h=>exact za9 hF hf (ha.append h)
 |nil=>exact zv (e:= .nilDeref) trivial
 |builtin b ts t c=>
  cases b<;>first|exact hok.elim|skip
  ·exact sn_value (sr_append hok t ha)
  ·exact sn_value (sr_copy ts t ha)
  ·exact sn_value (sr_len hok t ha)
  ·exact .pure .recover
  ·exact sn_value (sr_unsafeString ts t ha)
theorem sr_ofValue{v v':Value}(hv:VRel F ρ v v'){as as':Array Value}(ha:VsRel F ρ as as'){f f':Deferred->Sem β}(h:∀d d',DRel F ρ d d'->OkD P d->SRel P F B ρ (f d) (f' d')):
 SRel P F B ρ (Deferred.ofValue v as >>= f) (Deferred.ofValue v' as' >>= f'):=by
 unfold Deferred.ofValue;cases hv<;>first|exact .dead trivial|skip
 ·rename_i hf n1 h1 n2 h2;exact h _ _ ⟨.fn hf ⟨n2,h2⟩,(VsRel.append ⟨n1,h1⟩ ha)⟩ trivial
 ·exact h _ _ ⟨.nil,ha⟩ trivial
theorem sr_resolve{e e':Operand->Value}(he:ERel F G ρ e e'){c:Call}(hc:wA P F G c)(t:TypeId){f f':Deferred->Sem β}(h:∀d d',DRel F ρ d d'->OkD P d->SRel P F B ρ (f d) (f' d')):
 SRel P F B ρ (resolve e c t >>= f) (resolve e' c t >>= f'):=by
 obtain⟨ha,hc⟩:=hc
 have hargs:=kV he ha;unfold resolve;dsimp only;cases hcal:c.callee with
 |value x=>
  rw[hcal] at hc;exact sr_ofValue (he x hc) hargs fun d d' hd hok=>h d d' hd hok
 |invoke r n=>rw[hcal] at hc;exact hc.elim
 |builtin b=>
  rw[hcal] at hc;refine h _ _ ⟨.builtin ..,hargs⟩ ?_;cases b<;>first|exact hc.elim|exact hc
theorem sn_execOp(hF:vQ P F){e e':Operand->Value}(he:ERel F G ρ e e'){o:Oper}(ho:OkOp P F G D o.op):SN P F D ρ (execOp e o) (execOp e' o):=by
 unfold execOp;cases hop:o.op<;>rw[hop] at ho<;>first|exact ho.elim|skip
 case move x=>exact .pure (.value (he x ho))
 case assign x=>exact .pure (.value (he x ho))
 case pick c a b=>
  refine zdF (he c ho.1) fun t=>?_;cases t
  ·exact .pure (.value (he b ho.2.2))
  ·exact .pure (.value (he a ho.2.1))
 case alloc t=>exact sn_value (sr_zero ho fun v hv=>kX (hv F ρ) fun r r'=> .pure (.pointer (.some (qG r r' 0))))
 case box t x=>exact sn_value (kX (he x ho) fun r r'=> .pure (.pointer (.some (qG r r' 0))))
 case build t ps=>exact sn_value (zfv ho.1 (gq fun x hx=>he x.2 (ho.2 x (by simpa using hx))))
 case buildSlice t n ps=>exact sn_value (gI ho.1 n (gq fun x hx=>he x.2 (ho.2 x (by simpa using hx))))
 case load t a=>exact sn_value (sr_sureAddr (he a ho) fun b b' hb=>uI hb t)
 case store t a x=>exact zhq (sr_sureAddr (he a ho.1) fun b b' hb=>za6 hb t (he x ho.2))
 case binOp op t x y u=>exact sn_value ((se_eqGuard op t x y (he x ho.1) (he y ho.2)).eqs fun ρ₁ h₁ _=>sr_binOp op t ((he x ho.1).mono h₁) ((he y ho.2).mono h₁))
 case unOp op t x=>exact sn_value (sr_unary op (he x ho))
 case convert s d x=>exact sn_value (sr_convert ho.1 (he x ho.2))
 case makeInterface t x=>exact sn_value (ul t (he x ho))
 case makeFunc fn fs cs=>
  cases fn<;>first|exact ho.elim|skip
  have h1:=kV he ho.2.1;have h2:=kV he ho.2.2;exact .pure (.value (.func ho.1 h1.size h1.all h2.size h2.all))
 case makeSlice t l c=>exact sn_value (sr_makeSlice ho.1 (he l ho.2.1) (he c ho.2.2))
 case slice t x lo hi mx=>exact sn_value (zco ho.1 (he x ho.2.1) (vj he ho.2.2.1) (vj he ho.2.2.2.1) (vj he ho.2.2.2.2))
 case fieldAddr s x i=>exact sn_value (sr_fieldAt ho.1 (he x ho.2))
 case field t x i=>exact sn_value (zdE t (he x ho) i)
 case indexAddr t x i=>exact sn_value (zcr t (he x ho.1) (he i ho.2))
 case index t x i=>exact sn_value (zdD t (he x ho.1) (he i ho.2))
 case typeAssert x xt t ok=>
  obtain⟨rfl,⟨hz,hi⟩,hx⟩:=ho
  exact sn_value (sr_typeAssert (he x hx) xt hz hi)
 case extract x i=>exact sn_value (sr_extract (he x ho) i)
 case call c=>exact sr_resolve he ho _ fun d d' hd hok=>gf hF hd hok
 case defer c=>exact sr_resolve he ho _ fun d d' hd ok=> .pure (.defer hd ok)
 case panic x=>exact sn_value (sr_panic (he x ho))
 case send c x=>exact .pure (.comm _ (.one ⟨he c ho.2.1, .some (he x ho.2.2), .undefs⟩ ho.1) (by simp[ShOk]))
 case recv t c ok=>
  refine sr_underlying fun d hd=>?_;cases d<;>first|exact .dead trivial|skip
  exact sr_zero (ho.2.1 _ _ hd) fun v hv=> .pure (.comm _ (.one ⟨he c ho.2.2, .none,hv F ρ⟩ ho.1) (by simp[ShOk]))
end
section
variable (P:Program) (F:FuncId->Prop) (G:Nat->Prop) (D:Bool->Prop)
def xA:Code->Prop
 | .skip| .exit _| .label _| .goto _| .ret| .refuse _=>True
 | .region _ ops _=>∀o∈ops,OkOp P F G D o.op
 | .seq a b=>xA a/\xA b
 | .cond c a b=>OkA F G c/\xA a/\xA b
 | .block _ b| .loop b| .scope b=>xA b
 | .rangeFunc .. =>False
def xc:Item->Prop
 | .code c=>xA P F G D c
 | .inBlock _=>True
 | .inLoop b| .inScope b=>xA P F G D b
 | .inRegion ops is=>∀i∈is,∀o,ops[i]? =some o->OkOp P F G D o.op
 |_=>False
structure SimP:Prop where
 funcs:∀f,F f->∃fn c,P.funcs[f]? =some fn/\(fn.name== "runtime.NumGoroutine")=false/\fn.body=some c/\xA P F G D c
end
def PRel(F:FuncId->Prop)(ρ:Rn):List PanicEntry->List PanicEntry->Prop
 |[],[]=>True
 |x::l,y::l'=>(VRel F ρ x.v y.v/\x.recovered=y.recovered/\x.goexit=y.goexit)/\PRel F ρ l l'
 |_,_=>False
inductive MRel (F:FuncId->Prop) (ρ:Rn):FrameMode->FrameMode->Prop
 |run:MRel F ρ .run .run
 |returning:MRel F ρ .returning .returning
 |panicking {l l':List PanicEntry} (h:PRel F ρ l l'):MRel F ρ (.panicking l) (.panicking l')
inductive DsRel (P:Program) (F:FuncId->Prop) (tl tl':List Deferred) (ρ:Rn):List Deferred->List Deferred->Prop
 |nil:DsRel P F tl tl' ρ tl tl'
 |cons {d d':Deferred} {l l':List Deferred} (h:DRel F ρ d d') (ok:OkD P d) (hl:DsRel P F tl tl' ρ l l'):DsRel P F tl tl' ρ (d::l) (d'::l')
structure FRel (P:Program) (F:FuncId->Prop) (G:Nat->Prop) (D:Bool->Prop) (tl tl':List Deferred) (ρ:Rn) (fr fr':Frame):Prop where
 fn:fr'.fn=fr.fn
 mem:∃fn,P.funcs[fr.fn]? =some fn
 tmps:VsRel F ρ fr.tmps fr'.tmps
 todo:fr'.todo=fr.todo
 ok:∀x∈fr.todo,xc P F G D x
 defers:DsRel P F tl tl' ρ fr.defers fr'.defers
 mode:MRel F ρ fr.mode fr'.mode
 round:fr.roundOf=none
 round':fr'.roundOf=none
structure NoRec (k:CallKind) (cs:List Frame):Prop where
 none:∀fr:Frame,fr.kind=k->tryRecover fr cs=none
 early:k≠ .early
inductive SRl (P:Program) (F:FuncId->Prop) (G:Nat->Prop) (D:Bool->Prop) (k k':CallKind) (tl tl':List Deferred) (cs cs':List Frame) (ρ:Rn):List Frame->List Frame->Prop
 |base {fr fr':Frame} (h:FRel P F G D tl tl' ρ fr fr') (hk:fr.kind=k) (hk':fr'.kind=k'):SRl P F G D k k' tl tl' cs cs' ρ (fr::cs) (fr'::cs')
 |push {fr fr':Frame} {l l':List Frame} (h:FRel P F G D [] [] ρ fr fr') (hk:fr.kind= .normal\/fr.kind= .deferred) (hk':fr'.kind=fr.kind) (hl:SRl P F G D k k' tl tl' cs cs' ρ l l'):SRl P F G D k k' tl tl' cs cs' ρ (fr::l) (fr'::l')
section
variable {P:Program} {F:FuncId->Prop} {G:Nat->Prop} {D:Bool->Prop} {ρ ρ':Rn} {k k':CallKind} {tl tl':List Deferred} {cs cs':List Frame}
theorem PRel.mono(h:Ext ρ ρ'):∀{l l':List PanicEntry},PRel F ρ l l'->PRel F ρ' l l'
 |[],[],_=>trivial
 |_::_,_::_,x=>⟨⟨x.1.1.mono h,x.1.2⟩,PRel.mono h x.2⟩
 |[],_::_,x=>x.elim
 |_::_,[],x=>x.elim
theorem PRel.append:∀{l l' m m':List PanicEntry},PRel F ρ l l'->PRel F ρ m m'->PRel F ρ (l++m) (l'++m')
 |[],[],_,_,_,y=>y
 |_::_,_::_,_,_,x,y=>⟨x.1,PRel.append x.2 y⟩
 |[],_::_,_,_,x,_=>x.elim
 |_::_,[],_,_,x,_=>x.elim
theorem MRel.mono(h:Ext ρ ρ'){l l':FrameMode}(x:MRel F ρ l l'):MRel F ρ' l l':=by
 cases x with
 |run=>exact .run
 |returning=>exact .returning
 |panicking x=>exact .panicking (x.mono h)
theorem DsRel.mono(h:Ext ρ ρ'){l l':List Deferred}(x:DsRel P F tl tl' ρ l l'):DsRel P F tl tl' ρ' l l':=by
 induction x with
 |nil=>exact .nil
 |cons h1 ok _ ih=>exact .cons (h1.mono h) ok ih
theorem FRel.mono(h:Ext ρ ρ'){fr fr':Frame}(x:FRel P F G D tl tl' ρ fr fr'):FRel P F G D tl tl' ρ' fr fr':=⟨x.fn,x.mem,x.tmps.mono h,x.todo,x.ok,x.defers.mono h,x.mode.mono h,x.round,x.round'⟩
theorem SRl.mono(h:Ext ρ ρ'){l l':List Frame}(x:SRl P F G D k k' tl tl' cs cs' ρ l l'):SRl P F G D k k' tl tl' cs cs' ρ' l l':=by
 induction x with
 |base a b c=>exact .base (a.mono h) b c
 |push a b c _ ih=>exact .push (a.mono h) b c ih
theorem SRl.top{fr fr':Frame}{l l':List Frame}(x:SRl P F G D k k' tl tl' cs cs' ρ (fr::l) (fr'::l')):∃a b,FRel P F G D a b ρ fr fr':=by
 cases x<;>exact⟨_,_,‹_›⟩
theorem SRl.swap{fr fr':Frame}{l l':List Frame}(x:SRl P F G D k k' tl tl' cs cs' ρ (fr::l) (fr'::l')){a a':Frame}(h:∀tl tl',FRel P F G D tl tl' ρ fr fr'->FRel P F G D tl tl' ρ a a')(e:a.kind=fr.kind)(e':a'.kind=fr'.kind):SRl P F G D k k' tl tl' cs cs' ρ (a::l) (a'::l'):=by
 cases x with
 |base h0 hk hk'=>exact .base (h _ _ h0) (e.trans hk) (e'.trans hk')
 |push h0 hk hk' hl=>exact .push (h _ _ h0) (e▸hk) (by rw[e',hk',e]) hl
theorem zgi{ρ:Rn}(hG:∀g,G g->ρ g g){fr fr':Frame}(h:FRel P F G D tl tl' ρ fr fr'):ERel F G ρ fr.eval fr'.eval:=by
 intro x hx;cases x with
 |tmp t=>exact h.tmps.getD t .undefs
 |const v=>exact hx F ρ
 |global g=>exact .pointer (.some ⟨hG g hx,rfl,rfl⟩)
 |func f=>exact .func hx rfl (fun i v v' a=>by simp at a) rfl (fun i v v' a=>by simp at a)
theorem FRel.finish{fr fr':Frame}(h:FRel P F G D tl tl' ρ fr fr'){v v':Value}(hv:VRel F ρ v v'):FRel P F G D tl tl' ρ (fr.finish v) (fr'.finish v'):=by
 unfold Frame.finish;rw[h.todo];have hd:∀{x:Item} {t:List Item},fr.todo=x::t->∀i∈t,xc P F G D i:=fun e i hi=>h.ok i (by rw[e];exact List.mem_cons_of_mem _ hi)
 split
 ·rename_i ops i rest t e;refine⟨h.fn,h.mem,?_,rfl,?_,h.defers,h.mode,h.round,h.round'⟩
  ·dsimp only;cases (ops[i]?).bind (·.dst) with
   |none=>exact h.tmps
   |some d=>exact h.tmps.set d hv
  ·intro x hx;rcases List.mem_cons.1 hx with rfl|hx
   ·exact fun j hj=>h.ok (.inRegion ops (i::rest)) (by rw[e];exact List.mem_cons_self ..) j (List.mem_cons_of_mem _ hj)
   ·exact hd e x hx
 ·rename_i l t e;exact(h.ok (.inRangeFunc l) (by rw[e];exact List.mem_cons_self ..)).elim
 ·rename_i t e;exact(h.ok .beginRound (by rw[e];exact List.mem_cons_self ..)).elim
 ·rename_i d w r s t e;exact(h.ok (.call d w r s) (by rw[e];exact List.mem_cons_self ..)).elim
 ·rename_i r a t e;exact(h.ok (.extern r a) (by rw[e];exact List.mem_cons_self ..)).elim
 ·exact h
theorem kind_finish(fr:Frame)(v:Value):(fr.finish v).kind=fr.kind:=by
 unfold Frame.finish
 split<;>rfl
theorem FRel.raise{fr fr':Frame}(h:FRel P F G D tl tl' ρ fr fr'){l l':List PanicEntry}(hl:PRel F ρ l l'):FRel P F G D tl tl' ρ (fr.raise l) (fr'.raise l'):=by
 unfold Frame.raise;have hm:=h.mode;revert hm;generalize hm1:fr.mode=m;generalize hm2:fr'.mode=m';intro hm;cases hm with
 |run=>exact⟨h.fn,h.mem,h.tmps,h.todo,h.ok,h.defers, .panicking hl,h.round,h.round'⟩
 |returning=>exact⟨h.fn,h.mem,h.tmps,h.todo,h.ok,h.defers, .panicking hl,h.round,h.round'⟩
 |panicking x=>exact⟨h.fn,h.mem,h.tmps,h.todo,h.ok,h.defers, .panicking (hl.append x),h.round,h.round'⟩
theorem yK(fr:Frame)(v:List PanicEntry):(fr.raise v).kind=fr.kind:=by
 unfold Frame.raise
 split<;>rfl
theorem FRel.withTodo{fr fr':Frame}(h:FRel P F G D tl tl' ρ fr fr'){t:List Item}(ht:∀x∈t,xc P F G D x):FRel P F G D tl tl' ρ {fr with todo:=t} {fr' with todo:=t}:=⟨h.fn,h.mem,h.tmps,rfl,ht,h.defers,h.mode,h.round,h.round'⟩
theorem FRel.withMode{fr fr':Frame}(h:FRel P F G D tl tl' ρ fr fr'){m m':FrameMode}(hm:MRel F ρ m m'):FRel P F G D tl tl' ρ {fr with mode:=m} {fr' with mode:=m'}:=⟨h.fn,h.mem,h.tmps,h.todo,h.ok,h.defers,hm,h.round,h.round'⟩
theorem FRel.withDefers{fr fr':Frame}(h:FRel P F G D tl tl' ρ fr fr'){d d':List Deferred}(hd:DsRel P F tl tl' ρ d d'):FRel P F G D tl tl' ρ {fr with defers:=d} {fr' with defers:=d'}:=⟨h.fn,h.mem,h.tmps,h.todo,h.ok,hd,h.mode,h.round,h.round'⟩
theorem gC(hP:SimP P F G D){f:FuncId}(hf:F f){as as':Array Value}(h:VsRel F ρ as as')(q:CallKind):FRel P F G D [] [] ρ (Frame.enter P f as q) (Frame.enter P f as' q):=by
 obtain⟨fn,c,h1,h2,h3,h4⟩:=hP.funcs f hf
 refine⟨rfl,⟨fn,h1⟩,?_,by simp[Frame.enter],?_, .nil, .run,rfl,rfl⟩
 ·simp only[Frame.enter,h.size];exact h.append (.replicate _ .undefs)
 ·intro x hx;simp only[Frame.enter,h1,h3,Option.bind_some,Option.getD_some,List.mem_singleton] at hx;subst hx;exact h4
theorem funcsOk(hP:SimP P F G D):vQ P F:=fun f hf=>by
 obtain⟨fn,c,h1,h2,h3,h4⟩:=hP.funcs f hf
 exact⟨fn,h1,h2,by rw[h3];rfl⟩
theorem ok_exitTo{id:Nat}:∀{t t':List Item},(∀x∈t,xc P F G D x)->exitTo id t=some t'->∀x∈t',xc P F G D x
 |[],t',_,e=>by simp[exitTo] at e
 |x::t,t',h,e=>by
  have ht:∀x∈t,xc P F G D x:=fun y hy=>h y (List.mem_cons_of_mem _ hy);unfold exitTo at e
  split at e
  ·rename_i id' t2 heq;simp only[List.cons.injEq] at heq;obtain⟨rfl,rfl⟩:=heq
   split at e
   ·cases e;exact ht
   ·exact ok_exitTo ht e
  ·rename_i t2 _ heq;simp only[List.cons.injEq] at heq;obtain⟨rfl,rfl⟩:=heq
   exact ok_exitTo ht e
  ·cases e
theorem ok_findLabel{l:Nat}:∀{c c':Code},xA P F G D c->findLabel c l=some c'->xA P F G D c'
 | .seq a b,c',h,e=>by
   unfold findLabel at e;cases ha:findLabel a l with
   |some r=>
    rw[ha] at e;cases e;exact⟨ok_findLabel h.1 ha,h.2⟩
   |none=>
    rw[ha] at e;exact ok_findLabel h.2 e
 | .label l',c',h,e=>by
   unfold findLabel at e
   split at e
   ·cases e;trivial
   ·cases e
 | .skip,c',h,e=>by simp[findLabel] at e
 | .exit _,c',h,e=>by simp[findLabel] at e
 | .goto _,c',h,e=>by simp[findLabel] at e
 | .ret,c',h,e=>by simp[findLabel] at e
 | .refuse _,c',h,e=>by simp[findLabel] at e
 | .region _ _ _,c',h,e=>by simp[findLabel] at e
 | .cond _ _ _,c',h,e=>by simp[findLabel] at e
 | .block _ _,c',h,e=>by simp[findLabel] at e
 | .loop _,c',h,e=>by simp[findLabel] at e
 | .scope _,c',h,e=>by simp[findLabel] at e
 | .rangeFunc _ _ _ _,c',h,e=>by simp[findLabel] at e
theorem ok_gotoIn{l:Nat}:∀{t t':List Item},(∀x∈t,xc P F G D x)->gotoIn l t=some t'->∀x∈t',xc P F G D x
 |[],t',_,e=>by simp[gotoIn] at e
 |x::t,t',h,e=>by
  have ht:∀x∈t,xc P F G D x:=fun y hy=>h y (List.mem_cons_of_mem _ hy);unfold gotoIn at e
  split at e
  ·rename_i body t2 heq;simp only[List.cons.injEq] at heq;obtain⟨rfl,rfl⟩:=heq
   have hb:xA P F G D body:=h (.inScope body) (List.mem_cons_self ..)
   split at e
   ·rename_i r hr;cases e;intro y hy;rcases List.mem_cons.1 hy with rfl|hy
    ·exact ok_findLabel hb hr
    ·rcases List.mem_cons.1 hy with rfl|hy
     ·exact hb
     ·exact ht y hy
   ·exact ok_gotoIn ht e
  ·rename_i t2 _ heq;simp only[List.cons.injEq] at heq;obtain⟨rfl,rfl⟩:=heq
   exact ok_gotoIn ht e
  ·cases e
theorem yielded_rel{ops:Array Oper}{a a':Array Value}(h:VsRel F ρ a a')(j:Nat):yielded ops a' j=yielded ops a j:=by
 unfold yielded;cases (ops[j]?).bind (·.dst) with
 |none=>rfl
 |some d=>
  simp only[Option.bind_some];have:=h.get d
  generalize a[d]? =x,a'[d]? =y at this;cases this with
  |none=>rfl
  |some hv=>cases hv<;>rfl
theorem seen_mem{fn:FuncId}{es:Array Event}{e:Event}(h:e∈seen P fn es):e∈es:=by
 unfold seen at h;revert h;refine Array.foldl_induction (motive:=fun _ (x:Bool×Array Event)=>e∈x.2->e∈es) (by simp) ?_
 intro i x ih h;dsimp only at h
 split at h
 ·exact ih h
 ·dsimp only at h
  split at h
  ·exact ih h
  ·rcases Array.mem_push.1 h with h|h
   ·exact ih h
   ·rw[h];exact Array.getElem_mem _
end
inductive SSide (P:Program) (F:FuncId->Prop) (G:Nat->Prop) (D:Bool->Prop) (k k':CallKind) (tl tl':List Deferred) (cs cs':List Frame) (ρ:Rn) (w w':World):GStep->GStep->Prop
 |go {ρ₁:Rn} {fr fr':Frame} {l l':List Frame} {w₁ w₁':World} {es es':Array Event} (m:Moved P.globals.size F ρ w w' ρ₁ w₁ w₁') (h:SRl P F G D k k' tl tl' cs cs' ρ₁ (fr::l) (fr'::l')) (he:∀e∈es',EvR ρ₁ w' e):
  SSide P F G D k k' tl tl' cs cs' ρ w w' (.go (Go.Conc.G fr l) w₁ es) (.go (Go.Conc.G fr' l') w₁' es')
 |comm {ρ₁:Rn} {fr fr':Frame} {l l':List Frame} {w₁ w₁':World} {es es':Array Event} {c c':Array CommCase} {s:CommShape} (m:Moved P.globals.size F ρ w w' ρ₁ w₁ w₁') (h:SRl P F G D k k' tl tl' cs cs' ρ₁ (fr::l) (fr'::l'))
  (hc:CsRel F D ρ₁ c c') (hsh:ShOk c s) (he:∀e∈es',EvR ρ₁ w' e):SSide P F G D k k' tl tl' cs cs' ρ w w' (.comm (Go.Conc.G fr l) c true s w₁ es) (.comm (Go.Conc.G fr' l') c' true s w₁' es')
 |ended {o:Outcome} {w₁:World} {es:Array Event} {x:GStep}:SSide P F G D k k' tl tl' cs cs' ρ w w' (.ended o w₁ es) x
section
variable {P:Program} {F:FuncId->Prop} {G:Nat->Prop} {D:Bool->Prop} {ρ:Rn} {k k':CallKind} {tl tl':List Deferred} {cs cs':List Frame} {w w':World}
theorem recover_rel(hn:NoRec k cs)(hn':NoRec k' cs'){fr fr':Frame}{l l':List Frame}(h:SRl P F G D k k' tl tl' cs cs' ρ (fr::l) (fr'::l')):
 (tryRecover fr l=none/\tryRecover fr' l'=none)\/∃v v' m m',tryRecover fr l=some (v,m)/\tryRecover fr' l'=some (v',m')/\VRel F ρ v v'/\∀a a',(∀x y,FRel P F G D x y ρ fr fr'->FRel P F G D x y ρ a a')->a.kind=fr.kind->a'.kind=fr'.kind->SRl P F G D k k' tl tl' cs cs' ρ (a::m) (a'::m'):=by
 cases h with
 |base h hk hk'=>exact .inl ⟨hn.none _ hk,hn'.none _ hk'⟩
 |push h hk hk' hl=>
  rcases hk with hk|hk
  ·refine .inl ⟨?_,?_⟩
   ·unfold tryRecover;rw[hk]
   ·unfold tryRecover;rw[hk',hk]
  ·have e1:∀(x:Frame) (cs:List Frame),x.kind= .deferred->tryRecover x cs=(match cs with
    |caller::rest=>(match caller.mode with
     | .panicking ({v,recovered:=false,goexit:=false}::older)=>some (v,{caller with mode:= .panicking ({v,recovered:=true}::older)}::rest)
     |_=>none)
    |[]=>none):=by
    intro x cs hx;unfold tryRecover;rw[hx];cases cs<;>rfl
   rw[e1 _ _ hk,e1 _ _ (hk'.trans hk)];have key:∀{c c':Frame} {t t':List Frame},SRl P F G D k k' tl tl' cs cs' ρ (c::t) (c'::t')->MRel F ρ c.mode c'.mode->
    ((match c.mode with| .panicking ({v,recovered:=false,goexit:=false}::older)=>some (v,{c with mode:= .panicking ({v,recovered:=true}::older)}::t)|_=>none)=none/\
      (match c'.mode with| .panicking ({v,recovered:=false,goexit:=false}::older)=>some (v,{c' with mode:= .panicking ({v,recovered:=true}::older)}::t')|_=>none)=none)\/
    ∃v v' m m',(match c.mode with| .panicking ({v,recovered:=false,goexit:=false}::older)=>some (v,{c with mode:= .panicking ({v,recovered:=true}::older)}::t)|_=>none)=some (v,m)/\
     (match c'.mode with| .panicking ({v,recovered:=false,goexit:=false}::older)=>some (v,{c' with mode:= .panicking ({v,recovered:=true}::older)}::t')|_=>none)=some (v',m')/\
     VRel F ρ v v'/\SRl P F G D k k' tl tl' cs cs' ρ m m':=by
    intro c c' t t' hs hm;generalize c.mode=md,c'.mode=md' at hm;cases hm with
    |run=>exact .inl ⟨rfl,rfl⟩
    |returning=>exact .inl ⟨rfl,rfl⟩
    |panicking hp=>
     rename_i x y
     match x,y,hp with
     |[],[],_=>exact .inl ⟨rfl,rfl⟩
     |{v:=v,recovered:=r,goexit:=g}::x,{v:=v',recovered:=r',goexit:=g'}::y,⟨⟨h1,h2,h3⟩,h4⟩=>
      simp only at h1 h2 h3
      subst h2;subst h3
      cases r<;>cases g<;>first
       |exact .inl ⟨rfl,rfl⟩
       |exact .inr ⟨v,v',_,_,rfl,rfl,h1,hs.swap (fun _ _ hf=>hf.withMode (.panicking ⟨⟨h1,rfl,rfl⟩,h4⟩)) rfl rfl⟩
   cases hl with
   |base h2 hk2 hk2'=>
    rcases key (.base h2 hk2 hk2') h2.mode with e|⟨v,v',m,m',e,e',hv,hs⟩
    ·exact .inl e
    ·exact .inr ⟨v,v',m,m',e,e',hv,fun a a' ha ka ka'=> .push (ha _ _ h) (.inr (ka.trans hk)) (by rw[ka',ka,hk']) hs⟩
   |push h2 hk2 hk2' hl2=>
    rcases key (.push h2 hk2 hk2' hl2) h2.mode with e|⟨v,v',m,m',e,e',hv,hs⟩
    ·exact .inl e
    ·exact .inr ⟨v,v',m,m',e,e',hv,fun a a' ha ka ka'=> .push (ha _ _ h) (.inr (ka.trans hk)) (by rw[ka',ka,hk']) hs⟩
theorem qy{ρ₁:Rn}{fn:FuncId}{es:Array Event}{b:Bool}(h:∀e∈es,EvR ρ₁ w' e):∀e∈seen P fn (if b then #[] else es)++ #[],EvR ρ₁ w' e:=by
 intro e he;rw[Array.append_empty] at he;have:=seen_mem he
 split at this
 ·simp at this
 ·exact h e this
theorem zcZ(hP:SimP P F G D)(hG:∀g,G g->ρ g g)(hn:NoRec k cs)(hn':NoRec k' cs'){fr fr':Frame}{l l':List Frame}(h:SRl P F G D k k' tl tl' cs cs' ρ (fr::l) (fr'::l'))(h1:One P.globals.size ρ)(h2:WRel F ρ w w')(h3:Tied P.globals.size w w')
 {s s':Sem Next} (hs:SN P F D ρ s s'):SSide P F G D k k' tl tl' cs cs' ρ w w' (stepG.apply P true fr l none s w) (stepG.apply P true fr' l' none s' w'):=by
 obtain⟨ta,tb,hf⟩:=h.top
 have hd:=hs.side w w' #[] #[] h1 h2 h3;unfold stepG.apply;dsimp only;simp only[if_true];generalize s.runT P w #[]=x at hd;generalize s'.runT P w' #[]=y at hd;cases hd with
 | @dead hh w₁ e₁ r hh'=>
   dsimp only;cases hh<;>first|exact hh'.elim|exact .ended|skip
   rename_i u;cases u<;>first|exact hh'.elim|exact .ended
 | @panic ρ₁ v v' w₁ w₁' e₁ new m hv hne=>
   simp only[GStep.after,Array.empty_append];exact .go m ((h.mono m.ext).swap (fun _ _ hf=>hf.raise (l:=[_]) (l':=[_]) ⟨⟨hv,rfl,rfl⟩,trivial⟩) (yK _ _) (yK _ _)) (qy hne)
 | @ok ρ₁ a a' w₁ w₁' e₁ new m ha hne=>
   have h':=h.mono m.ext;have hf':=hf.mono m.ext;simp only[Array.empty_append];cases ha with
   |value hv=>exact .go m (h'.swap (fun _ _ hf=>hf.finish hv) (kind_finish _ _) (kind_finish _ _)) (qy hne)
   |skip=>exact .go m (h'.swap (fun _ _ hf=>hf.finish .undefs) (kind_finish _ _) (kind_finish _ _)) (qy hne)
   |enter hff has=>
    have fin:=SSide.go (es:=seen P fr.fn (if (fr.kind==CallKind.early)=true then #[] else e₁)++ #[]) m (.push (gC hP hff has .normal) (.inl rfl) rfl h') (qy (P:=P) (fn:=fr'.fn) (b:=fr'.kind==CallKind.early) hne);cases ht:fr.todo with
    |nil=>simp only[hf.todo,ht];exact fin
    |cons x t=>
     have hx:=hf.ok x (by rw[ht];exact List.mem_cons_self ..)
     cases x<;>first|exact hx.elim|(simp only[hf.todo,ht];exact fin)
   |defer hdd ok=>exact .go m (h'.swap (fun _ _ hf=>(hf.withDefers (d:=_::_) (d':=_::_) (.cons hdd ok hf.defers)).finish .undefs) (kind_finish _ _) (kind_finish _ _)) (qy hne)
   |recover=>
    dsimp only;rw[hf.round,hf.round'];dsimp only;rcases recover_rel hn hn' h' with⟨e,e'⟩|⟨v,v',mm,mm',e,e',hv,hs'⟩
    ·rw[e,e'];exact .go m (h'.swap (fun _ _ hf=>hf.finish .nilIface) (kind_finish _ _) (kind_finish _ _)) (qy hne)
    ·rw[e,e'];exact .go m (hs' _ _ (fun _ _ hf=>hf.finish hv) (kind_finish _ _) (kind_finish _ _)) (qy hne)
   |comm sh hc hsh=>exact .comm m h' hc hsh (qy hne)
theorem exec_side(hP:SimP P F G D)(hG:∀g,G g->ρ g g)(hn:NoRec k cs)(hn':NoRec k' cs'){fr fr':Frame}{l l':List Frame}(h:SRl P F G D k k' tl tl' cs cs' ρ (fr::l) (fr'::l'))(h1:One P.globals.size ρ)(h2:WRel F ρ w w')(h3:Tied P.globals.size w w')
 (b b':Bool):SSide P F G D k k' tl tl' cs cs' ρ w w' (stepG.exec P b true fr l none w) (stepG.exec P b' true fr' l' none w'):=by
 obtain⟨fn,tmps,todo,defers,mode,kind,ro⟩:=fr
 obtain⟨fn',tmps',todo',defers',mode',kind',ro'⟩:=fr'
 obtain⟨ta,tb,hf⟩:=h.top
 have q1:fn'=fn:=hf.fn;have q2:todo'=todo:=hf.todo;have q3:ro=none:=hf.round;have q4:ro'=none:=hf.round';subst q1;subst q2;subst q3;subst q4
 have he:=zgi hG hf;have m0:Moved P.globals.size F ρ w w' ρ w w':= .refl h1 h2;have to:∀(t:List Item),(∀x∈t,xc P F G D x)->SSide P F G D k k' tl tl' cs cs' ρ w w' (.go {frame:=⟨fn',tmps,t,defers,mode,kind,none⟩,callers:=l,status:= .running,dying:=none} w) (.go {frame:=⟨fn',tmps',t,defers',mode',kind',none⟩,callers:=l',status:= .running,dying:=none} w'):=fun t ht=>
  .go m0 (h.swap (fun _ _ hf=>hf.withTodo ht) rfl rfl) (by simp)
 have cons:∀{x:Item} {t:List Item},xc P F G D x->(∀y∈t,xc P F G D y)->∀y∈x::t,xc P F G D y:=fun hx ht y hy=>(List.mem_cons.1 hy).elim (fun e=>e▸hx) (ht y);have ret:SSide P F G D k k' tl tl' cs cs' ρ w w' (.go {frame:=⟨fn',tmps,todo',defers, .returning,kind,none⟩,callers:=l,status:= .running,dying:=none} w) (.go {frame:=⟨fn',tmps',todo',defers', .returning,kind',none⟩,callers:=l',status:= .running,dying:=none} w'):=
  .go m0 (h.swap (fun _ _ hf=>hf.withMode .returning) rfl rfl) (by simp)
 unfold stepG.exec;dsimp only;cases todo' with
 |nil=>exact ret
 |cons it t=>
  have hit:=hf.ok it (List.mem_cons_self ..);have htl:∀y∈t,xc P F G D y:=fun y hy=>hf.ok y (List.mem_cons_of_mem _ hy);cases it with
  |code c=>
   cases c with
   |skip=>exact to t htl
   |label=>exact to t htl
   |ret=>exact ret
   |seq a b=>exact to _ (cons hit.1 (cons hit.2 htl))
   |cond c a b=>
    have hc:=he c hit.1;dsimp only;generalize Frame.eval ⟨fn',tmps, .code (.cond c a b)::t,defers,mode,kind,none⟩ c=x,Frame.eval ⟨fn',tmps', .code (.cond c a b)::t,defers',mode',kind',none⟩ c=y at hc⊢;cases hc<;>first|exact .ended|skip
    rename_i q;exact to _ (cons (by cases q<;>first|exact hit.2.1|exact hit.2.2) htl)
   |block id b=>exact to _ (cons hit (cons trivial htl))
   |loop b=>exact to _ (cons hit (cons hit htl))
   |scope b=>exact to _ (cons hit (cons hit htl))
   |exit id=>
    dsimp only;cases hx:exitTo id t with
    |none=>exact .ended
    |some t'=>exact to _ (ok_exitTo htl hx)
   |goto id=>
    dsimp only;cases hx:gotoIn id t with
    |none=>exact .ended
    |some t'=>exact to _ (ok_gotoIn htl hx)
   |refuse=>exact .ended
   |rangeFunc=>exact hit.elim
   |region id ops draw=>
    dsimp only;cases draw with
    |false=>exact to _ (cons (fun i _ o ho=>hit o (Array.mem_of_getElem? ho)) htl)
    |true=>
     simp only[Bool.not_true,Bool.false_eq_true,if_false];have c1:∀v:World,(choose (.order fn' id)).run P v= .ok (v.tape v.drawn (.order fn' id)) {v with drawn:=v.drawn+1}:=fun v=>rfl;rw[c1,c1];have e:w.tape w.drawn (.order fn' id)=w'.tape w'.drawn (.order fn' id):=h3.tape 0 _;rw[e];exact SSide.go (P:=P) (G:=G) (k:=k) (k':=k') (tl:=tl) (tl':=tl') (cs:=cs) (cs':=cs') (es:= #[]) (es':= #[]) (moved_draw h1 h2) (h.swap (fun _ _ hf=>hf.withTodo (t:= .inRegion ops (Region.schedule (P.follows .mixedOrders) ops (w'.tape w'.drawn (.order fn' id)))::t) (cons (fun i _ o ho=>hit o (Array.mem_of_getElem? ho)) htl)) rfl rfl) (by simp)
  |inBlock=>exact to t htl
  |inScope=>exact to t htl
  |inLoop b=>exact to _ (cons hit (cons hit htl))
  |inRegion ops todo=>
   cases todo with
   |nil=>exact to t htl
   |cons i rest=>
    dsimp only;have hy:yielded ops tmps'=yielded ops tmps:=funext fun j=>yielded_rel hf.tmps j;rw[hy];split
    ·unfold stepG.oper;simp only[Frame.oper?];cases ho:ops[i]? with
     |none=>exact .ended
     |some o=>
      dsimp only;exact zcZ hP hG hn hn' h h1 h2 h3 (sn_execOp (funcsOk hP) he (hit i (List.mem_cons_self ..) o ho))
    ·exact .go m0 (h.swap (fun _ _ hf=>hf.finish .undefs) (kind_finish _ _) (kind_finish _ _)) (by simp)
  |inRangeFunc=>exact hit.elim
  |endRangeFunc=>exact hit.elim
  |beginRound=>exact hit.elim
  |call=>exact hit.elim
  |extern=>exact hit.elim
end
section
variable {P:Program} {F:FuncId->Prop} {G:Nat->Prop} {D:Bool->Prop} {ρ:Rn} {k k':CallKind} {tl tl':List Deferred} {cs cs':List Frame} {w w':World} {α β:Type} {B:Rn->β->β->Prop}
theorem zdG{x x':Value}(hx:VRel F ρ x x'){f f':Addr->Sem β}(h:∀a a',ARel ρ a a'->SRel P F B ρ (f a) (f' a')):SRel P F B ρ (asAddr x >>= f) (asAddr x' >>= f'):=by
 cases hx<;>first|exact .dead trivial|skip
 cases ‹OpRel (ARel ρ) _ _› with
 |none=>exact(zv (A:=fun _ _ _=>False) (e:= .nilDeref) trivial).bind fun _ _ _ _ h=>h.elim
 |some ha=>exact h _ _ ha
theorem kY{γ:Type}{f f':γ->Sem Value}:∀(l:List γ) {ρ:Rn},(∀ρ₁,Ext ρ ρ₁->∀a,SV P F ρ₁ (f a) (f' a))->SRel P F (fun ρ l l'=>VsRel F ρ l.toArray l'.toArray) ρ (l.mapM f) (l.mapM f')
 |[],ρ,h=>by rw[List.mapM_nil,List.mapM_nil];exact .pure .empty
 |a::l,ρ,h=>by
  rw[List.mapM_cons,List.mapM_cons];refine(h ρ (Ext.refl _) a).bind fun ρ₁ h₁ v v' hv=>?_;refine(kY l fun ρ₂ h₂=>h ρ₂ (h₁.trans h₂)).bind fun ρ₂ h₂ vs vs' hvs=>?_;refine .pure ?_;have:=(VsRel.single (hv.mono h₂)).append hvs
  simpa using this
theorem gH{γ:Type}{f f':γ->Sem Value}(l:Array γ)(h:∀ρ₁,Ext ρ ρ₁->∀a,SV P F ρ₁ (f a) (f' a)):SRel P F (fun ρ l l'=>VsRel F ρ l l') ρ (l.mapM f) (l.mapM f'):=by
 rw[Array.mapM_eq_mapM_toList,Array.mapM_eq_mapM_toList];show SRel P F _ ρ ((l.toList.mapM f) >>= fun x=>pure x.toArray) ((l.toList.mapM f') >>= fun x=>pure x.toArray);exact(kY _ h).bind fun _ _ _ _ h=> .pure h
theorem zcp(fn:Func){t t':Array Value}(h:VsRel F ρ t t'):SV P F ρ (results fn t) (results fn t'):=by
 unfold results;refine(gH _ fun ρ₁ h₁ r=>?_).bind fun ρ₁ h₁ vs vs' hvs=> .pure ?_
 ·cases r with
  |tmp i=>exact .pure ((h.mono h₁).getD i .undefs)
  |cell a t=>exact zdG ((h.mono h₁).getD a .undefs) fun b b' hb=>uI hb t
 ·by_cases hz:vs.size=1
  ·have hz':vs'.size=1:=hvs.size▸hz;rw[dif_pos hz,dif_pos hz'];exact hvs.all 0 _ _ (Array.getElem?_eq_getElem (by omega)) (Array.getElem?_eq_getElem (by omega))
  ·have hz':¬vs'.size=1:=hvs.size▸hz;rw[dif_neg hz,dif_neg hz'];exact .tuples hvs
theorem PRel.drop:∀{l l':List PanicEntry},PRel F ρ l l'->PRel F ρ (l.dropWhile (!·.goexit)) (l'.dropWhile (!·.goexit))
 |[],[],h=>h
 |x::l,y::l',h=>by
  rw[List.dropWhile_cons,List.dropWhile_cons,h.1.2.2];split
  ·exact PRel.drop h.2
  ·exact h
 |[],_::_,h=>h.elim
 |_::_,[],h=>h.elim
def settled(caller:Frame):Frame:=
 match caller.mode with
 | .panicking ({recovered:=true, ..}::older)=>
   match older.dropWhile (!·.goexit) with
   |[]=>{caller with mode:= .returning}
   |rest=>{caller with mode:= .panicking rest}
 |_=>caller
theorem zbc{c c':Frame}{tl tl':List Deferred}(h:FRel P F G D tl tl' ρ c c'):FRel P F G D tl tl' ρ (settled c) (settled c'):=by
 unfold settled;have hm:=h.mode;generalize hc:c.mode=m,hc':c'.mode=m' at hm;cases hm with
 |run=>exact h
 |returning=>exact h
 |panicking hp=>
  rename_i x y
  match x,y,hp with
  |[],[],_=>exact h
  |{v:=v,recovered:=r,goexit:=g}::x,{v:=v',recovered:=r',goexit:=g'}::y,⟨⟨h1,h2,h3⟩,h4⟩=>
   simp only at h2 h3
   subst h2;subst h3
   cases r with
   |false=>exact h
   |true=>
    dsimp only;have hd:=PRel.drop h4;generalize x.dropWhile (!·.goexit)=u,y.dropWhile (!·.goexit)=u' at hd
    match u,u',hd with
    |[],[],_=>exact h.withMode .returning
    |a::u,b::u',hd=>exact h.withMode (.panicking hd)
theorem vq(c:Frame):(settled c).kind=c.kind:=by
 unfold settled;split
 ·split<;>rfl
 ·rfl
theorem kQ{b b':Bool}{fr fr' c c':Frame}{t t':List Frame}(hk:fr.kind= .normal\/fr.kind= .deferred)(hk':fr'.kind=fr.kind)(hl:SRl P F G D k k' tl tl' cs cs' ρ (c::t) (c'::t'))(h1:One P.globals.size ρ)(h2:WRel F ρ w w'){v v':Value}(hv:VRel F ρ v v'):
 SSide P F G D k k' tl tl' cs cs' ρ w w' (doReturn P b fr (c::t) none v w) (doReturn P b' fr' (c'::t') none v' w'):=by
 have e:∀(b:Bool) (fr c:Frame) (t:List Frame) (v:Value) (w:World),fr.kind= .deferred->doReturn P b fr (c::t) none v w= .go {frame:=settled c,callers:=t,status:= .running,dying:=none} w:=by
  intro b fr c t v w hk;unfold doReturn settled;rw[hk];rfl
 rcases hk with hk|hk
 ·unfold doReturn;rw[hk',hk];exact .go (.refl h1 h2) (hl.swap (fun _ _ hf=>hf.finish hv) (kind_finish _ _) (kind_finish _ _)) (by simp)
 ·rw[e _ _ _ _ _ _ hk,e _ _ _ _ _ _ (hk'.trans hk)];exact .go (.refl h1 h2) (hl.swap (fun _ _ hf=>zbc hf) (vq _) (vq _)) (by simp)
theorem SSide.after{ρ₁:Rn}{w₁ w₁':World}{es es':Array Event}{x y:GStep}(m:Moved P.globals.size F ρ w w' ρ₁ w₁ w₁')(he:∀e∈es',EvR ρ₁ w' e)(h:SSide P F G D k k' tl tl' cs cs' ρ₁ w₁ w₁' x y):SSide P F G D k k' tl tl' cs cs' ρ w w' (x.after es) (y.after es'):=by
 cases h with
 |go m2 h he2=>exact .go (m.trans m2) h fun e h=>(Array.mem_append.1 h).elim (fun h=>(he e h).mono m2.ext) (fun h=>(he2 e h).back m.chan')
 |comm m2 h hc hsh he2=>exact .comm (m.trans m2) h hc hsh fun e h=>(Array.mem_append.1 h).elim (fun h=>(he e h).mono m2.ext) (fun h=>(he2 e h).back m.chan')
 |ended=>exact .ended
theorem SSide.ite{c c':Prop}[Decidable c][Decidable c'](hc:c'->c){o:Outcome}{w₁:World}{es:Array Event}{x x' y:GStep}(h:SSide P F G D k k' tl tl' cs cs' ρ w w' x x'):SSide P F G D k k' tl tl' cs cs' ρ w w' (if c then .ended o w₁ es else x) (if c' then y else x'):=by
 by_cases h1:c
 ·rw[if_pos h1];exact .ended
 ·rw[if_neg h1,if_neg fun k=>h1 (hc k)];exact h
theorem ue{fr:Frame}(h:∃fn,P.funcs[fr.fn]? =some fn):fr.catches P=false:=by
 obtain⟨fn,h1⟩:=h
 unfold Frame.catches;rw[h1]
theorem vR(hP:SimP P F G D)(hn:NoRec k cs)(hn':NoRec k' cs'){fr fr':Frame}{l l':List Frame}(h:SRl P F G D k k' tl tl' cs cs' ρ (fr::l) (fr'::l'))(h1:One P.globals.size ρ)(h2:WRel F ρ w w')(h3:Tied P.globals.size w w')
 {d d':Deferred} (hd:DRel F ρ d d') (hok:OkD P d):SSide P F G D k k' tl tl' cs cs' ρ w w' (callDeferred P fr l none d w) (callDeferred P fr' l' none d' w'):=by
 obtain⟨ta,tb,hf⟩:=h.top
 have hs:=(gf (D:=D) (funcsOk hP) hd hok).side w w' #[] #[] h1 h2 h3;unfold callDeferred;refine SSide.ite ?_ ?_
 ·have ht:=hd.target;have hm:=hf.mode;generalize d.target=a,d'.target=b,fr.mode=m,fr'.mode=m' at ht hm;cases ht<;>cases hm<;>exact id
 ·dsimp only;generalize (invoke d.target d.args).runT P w #[]=x at hs;generalize (invoke d'.target d'.args).runT P w' #[]=y at hs;have ev:∀{ρ₁:Rn} {fn:FuncId} {es:Array Event},(∀e∈es,EvR ρ₁ w' e)->∀e∈seen P fn es++ #[],EvR ρ₁ w' e:=fun h e he=>h e (seen_mem (by simpa using he))
  cases hs with
  | @dead hh w₁ e₁ r hh'=>
    dsimp only;cases hh<;>first|exact hh'.elim|exact .ended
  | @panic ρ₁ v v' w₁ w₁' e₁ new m hv hne=>
    simp only[GStep.after,Array.empty_append];exact .go m ((h.mono m.ext).swap (fun _ _ hf=>hf.raise (l:=[_]) (l':=[_]) ⟨⟨hv,rfl,rfl⟩,trivial⟩) (yK _ _) (yK _ _)) (ev hne)
  | @ok ρ₁ a a' w₁ w₁' e₁ new m ha hne=>
    have h':=h.mono m.ext;simp only[Array.empty_append];cases ha with
    |value hv=>exact .go m h' (ev hne)
    |skip=>exact .go m h' (ev hne)
    |enter hff has=>exact .go m (.push (gC hP hff has .deferred) (.inr rfl) rfl h') (ev hne)
    |defer hdd ok=>exact .go m h' (ev hne)
    |comm sh hc _=>exact .go m h' (ev hne)
    |recover=>
     dsimp only;have hm:=(hf.mono m.ext).mode;have go:=SSide.go (es:=seen P fr.fn e₁++ #[]) m h' (ev (fn:=fr'.fn) hne);rcases recover_rel hn hn' h' with⟨e,e'⟩|⟨v,v',mm,mm',e,e',hv,hs'⟩
     ·rw[e,e'];generalize fr.mode=md,fr'.mode=md' at hm;cases hm<;>exact go
     ·rw[e,e'];have go2:=SSide.go (es:=seen P fr.fn e₁++ #[]) m (hs' fr fr' (fun _ _ h=>h) rfl rfl) (ev (fn:=fr'.fn) hne);generalize fr.mode=md,fr'.mode=md' at hm;cases hm<;>first|exact go2|exact go
def Goes1(tl:List Deferred)(cs:List Frame)(fr:Frame)(l:List Frame):Prop:=fr.mode≠ .run->fr.defers=tl->l.length≠cs.length
theorem unwind_side(hP:SimP P F G D)(hn:NoRec k cs)(hn':NoRec k' cs'){fr fr':Frame}{l l':List Frame}(h:SRl P F G D k k' tl tl' cs cs' ρ (fr::l) (fr'::l'))(h1:One P.globals.size ρ)(h2:WRel F ρ w w')(h3:Tied P.globals.size w w')(hg:Goes1 tl cs fr l)(hm:fr.mode≠ .run)(b b':Bool):
 SSide P F G D k k' tl tl' cs cs' ρ w w' (unwind P b fr l none w) (unwind P b' fr' l' none w'):=by
 obtain⟨ta,tb,hf⟩:=h.top
 have cons:∀(d d':Deferred) (ds ds':List Deferred),fr.defers=d::ds->fr'.defers=d'::ds'->DRel F ρ d d'->OkD P d->SRl P F G D k k' tl tl' cs cs' ρ ({fr with defers:=ds}::l) ({fr' with defers:=ds'}::l')->
  SSide P F G D k k' tl tl' cs cs' ρ w w' (unwind P b fr l none w) (unwind P b' fr' l' none w'):=by
  intro d d' ds ds' e e' hd hok hsw;have main:=vR hP hn hn' hsw h1 h2 h3 hd hok;unfold unwind;rw[e,e'];obtain⟨t,as⟩:=d
  obtain⟨t',as'⟩:=d'
  have ht:TRel F ρ t t':=hd.target;cases ht<;>exact main
 cases h with
 |base h hk hk'=>
  have hdd:=h.defers;generalize he:fr.defers=x,he':fr'.defers=y at hdd;cases hdd with
  |nil=>exact absurd rfl (hg hm he)
  | @cons d d' ds ds' h1 ok hl=>exact cons d d' ds ds' he he' h1 ok (.base (h.withDefers hl) hk hk')
 | @push _ _ m m' h hk hk' hl=>
   have hdd:=h.defers;generalize he:fr.defers=x,he':fr'.defers=y at hdd;cases hdd with
   | @cons d d' ds ds' h1 ok hl'=>exact cons d d' ds ds' he he' h1 ok (.push (h.withDefers hl') hk hk' hl)
   |nil=>
    have hf:=h;unfold unwind;rw[he,he'];have hmd:=hf.mode;dsimp only;rw[ue hf.mem,ue (fr:=fr') (by rw[hf.fn];exact hf.mem),hf.fn]
    obtain⟨fn,hfn⟩:=hf.mem
    rw[hfn];generalize hx:fr.mode=md,hx':fr'.mode=md' at hmd;cases hmd with
    |run=>exact absurd hx hm
    |panicking hp=>
     simp only[Bool.false_eq_true,if_false];cases hl with
     |base h0 q q'=>exact .go (.refl h1 h2) (.base (h0.raise hp) (by rw[yK];exact q) (by rw[yK];exact q')) (by simp)
     |push h0 q q' hl2=>exact .go (.refl h1 h2) (.push (h0.raise hp) (by rw[yK];exact q) (by rw[yK,yK];exact q') hl2) (by simp)
    |returning=>
     dsimp only;have hs:=(zcp fn hf.tmps).side w w' #[] #[] h1 h2 h3;generalize (results fn fr.tmps).runT P w #[]=x at hs;generalize (results fn fr'.tmps).runT P w' #[]=y at hs;have ev:∀{ρ₁:Rn} {fn:FuncId} {es:Array Event},(∀e∈es,EvR ρ₁ w' e)->∀e∈seen P fn es,EvR ρ₁ w' e:=fun h e he=>h e (seen_mem he);cases hs with
     | @dead hh w₁ e₁ r hh'=>cases hh<;>exact .ended
     | @panic ρ₁ v v' w₁ w₁' e₁ new m hv hne=>exact .ended
     | @ok ρ₁ a a' w₁ w₁' e₁ new m ha hne=>
       simp only[Array.empty_append];refine SSide.after m (ev hne) ?_;cases hl with
       |base h0 q q'=>exact kQ hk hk' (.base (h0.mono m.ext) q q') m.one m.rel ha
       |push h0 q q' hl2=>exact kQ hk hk' (.push (h0.mono m.ext) q q' (hl2.mono m.ext)) m.one m.rel ha
theorem gd(hP:SimP P F G D)(hG:∀g,G g->ρ g g)(hn:NoRec k cs)(hn':NoRec k' cs'){fr fr':Frame}{l l':List Frame}(h:SRl P F G D k k' tl tl' cs cs' ρ (fr::l) (fr'::l'))(h1:One P.globals.size ρ)(h2:WRel F ρ w w')(h3:Tied P.globals.size w w')(hg:Goes1 tl cs fr l)(b b':Bool):
 SSide P F G D k k' tl tl' cs cs' ρ w w' (stepG P b (Go.Conc.G fr l) w) (stepG P b' (Go.Conc.G fr' l') w'):=by
 obtain⟨ta,tb,hf⟩:=h.top
 have hmd:=hf.mode;unfold stepG Go.Conc.G;dsimp only;cases hm:fr.mode with
 |run=>
  rw[hm] at hmd;have hm':fr'.mode= .run:=by
   generalize fr'.mode=x at hmd;cases hmd;rfl
  rw[hm'];exact exec_side hP hG hn hn' h h1 h2 h3 b b'
 |returning=>
  rw[hm] at hmd;have hm':fr'.mode= .returning:=by
   generalize fr'.mode=x at hmd;cases hmd;rfl
  rw[hm'];exact unwind_side hP hn hn' h h1 h2 h3 hg (by rw[hm];simp) b b'
 |panicking x=>
  rw[hm] at hmd;have hm':∃y,fr'.mode= .panicking y:=by
   generalize fr'.mode=x at hmd;cases hmd;exact⟨_,rfl⟩
  obtain⟨y,hm'⟩:=hm'
  rw[hm'];exact unwind_side hP hn hn' h h1 h2 h3 hg (by rw[hm];simp) b b'
end
end Go.Bsd
