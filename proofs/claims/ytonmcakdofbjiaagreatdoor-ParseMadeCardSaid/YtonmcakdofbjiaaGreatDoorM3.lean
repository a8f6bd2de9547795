/- A part. -/
import Derived.Test.YtonmcakdofbjiaaGreatDoorM2
set_option linter.all false
set_option maxRecDepth 100000
set_option maxHeartbeats 8000000
namespace Go.Bsd
open Go.Conc
structure TameProg (P:Program):Prop where
 count:∀(f:FuncId) (fn:Func),P.funcs[f]? =some fn->(fn.name== "runtime.NumGoroutine")=false
 next:∀(f:FuncId) (fn:Func),P.funcs[f]? =some fn->fn.body.isNone=true->Extern.findNext fn=none
 find:∀(f:FuncId) (fn:Func),P.funcs[f]? =some fn->fn.body.isNone=true->∀e,Extern.find fn=some e->∀args,Any P (e args)
def zeO:Next->Prop
 | .value _| .skip| .enter _ _| .round _ _ _ _ _| .defer _| .recover| .spawn _| .comm _ _ _=>True
 | .row row _=>row= "runtime.print$piece"
 | .coroswitch _ exit=>exit=true
 |_=>False
abbrev OkN(P:Program)(s:Sem Next):Prop:=Safe P zeO 0 s
section
variable {P:Program}
theorem okN_value{s:Sem Value}(h:Any P s):OkN P (do pure (.value (<-s))):=Safe.bnd' h fun _=>⟨rfl,trivial⟩
theorem okN_skip{s:Sem Unit}(h:Any P s):OkN P (do s;pure .skip):=Safe.bnd' h fun _=>⟨rfl,trivial⟩
theorem zbk{k:Program->Sem Next}(h:OkN P (k P)):OkN P (program >>= k):=h
theorem xS(m:String):OkN P (stuck m):=⟨by simp, .inl rfl⟩
theorem uN(u:Unsupported):OkN P (unsupported u):=⟨by simp, .inl rfl⟩
theorem okN_goPanic(v:Value):OkN P (goPanic v):=⟨by simp, .inl rfl⟩
theorem yw(e:RuntimeError):OkN P (runtimePanic e):=by
 unfold runtimePanic;refine Safe.bnd' any_program fun p=>?_;cases e<;>dsimp only<;>first
  |exact okN_goPanic _
  |(refine Safe.bnd' (by simp) fun _=>Safe.bnd' (by simp) fun _=>?_;exact okN_goPanic _)
theorem okN_pure{x:Next}(h:zeO x):OkN P (pure x):=⟨rfl,h⟩
theorem okN_writeFd(fd:Nat)(b:ByteArray){k:Unit->Sem Next}(h:OkN P (k ())):OkN P (writeFd fd b >>= k):=by
 unfold writeFd;simp only[Bind.bind,Sem.bind];unfold OkN Safe;refine⟨⟨.unsupported (.noEntry "print: a write on its descriptor that would wait"),trivial,rfl⟩,fun r hr=>?_⟩;cases r<;>first|exact h|exact⟨by simp, .inl rfl⟩
theorem okN_piece(ps rs:Array TypeId)(args:Array Value):OkN P (Extern.PrintPieces.piece ps rs args):=by
 have tail:∀(last first:Bool),OkN P (do
  if !last then return .row "runtime.print$piece" (#[.bool false]++args.extract 2 args.size)
  if !first then
   mark .disable
   store (printLock (<-program)) (.bool false) .atomic
   mark .enable
  pure (.value (.tuple #[])):Sem Next):=by
  intro last first
  cases last<;>cases first
  ·exact⟨rfl,rfl⟩
  ·exact⟨rfl,rfl⟩
  ·exact .inl ⟨rfl, .inr (.inl ⟨rfl,0,rfl,rfl,trivial⟩)⟩
  ·exact⟨rfl,trivial⟩
 unfold Extern.PrintPieces.piece;split
 ·split
  ·dsimp only;split
   ·exact⟨by simp, .inl rfl⟩
   ·split
    ·generalize (args.size==2)=last at*;refine .inl ⟨rfl,fun v=>?_⟩;cases v<;>try exact⟨by simp, .inr ⟨by simp,by simp,by simp⟩⟩
     rename_i b;cases b
     ·cases last
      ·exact .inr (.inl ⟨rfl,0,rfl,okN_writeFd 2 _ (tail false _)⟩)
      ·exact .inr (.inl ⟨rfl,0,rfl,okN_writeFd 2 _ (tail true _)⟩)
     ·exact⟨by simp, .inr ⟨by simp,by simp,by simp⟩⟩
    ·exact okN_writeFd 2 _ (tail _ _)
  ·exact⟨by simp, .inl rfl⟩
 ·exact⟨by simp, .inl rfl⟩
theorem okN_print(ln:Bool)(consts:Array Bool)(ts:Array TypeId)(args:Array Value):OkN P (Builtin.printMarked ln consts ts args):=by
 unfold Builtin.printMarked;refine Safe.bnd' (vD _ _ _ _) fun ps=>?_;split
 ·exact⟨rfl,trivial⟩
 ·exact okN_piece _ _ _
attribute [local irreducible] Safe
theorem zbl(b:Builtin)(ts:Array TypeId)(t:TypeId)(c:Array Bool)(args:Array Value):OkN P (builtin b ts t c args):=by
 unfold builtin;cases b<;>dsimp only<;>first
  |exact okN_print _ _ _ _
  |exact okN_pure trivial
  |(refine okN_value ?_;simp;done)
  |(refine okN_value ?_;refine any_bind ?_ (fun _=>?_)<;>simp;done)
  |(unfold unsupported Safe;exact⟨by simp, .inl rfl⟩)
  |(unfold stuck Safe;exact⟨by simp, .inl rfl⟩)
  |exact Safe.bnd' (zaL _) fun _=>okN_pure trivial
theorem jJ(h:TameProg P)(f:FuncId)(args:Array Value):OkN P (callFunc f args):=by
 unfold callFunc;refine zbk ?_;cases hf:P.funcs[f]? with
 |none=>exact xS _
 |some fn=>
  dsimp only;rw[if_neg (by simp[h.count f fn hf])]
  by_cases hb:fn.body.isNone=true
  ·rw[if_pos hb];refine Safe.bnd' (zc7 f) fun _=>?_;rw[h.next f fn hf hb];dsimp only;cases he:Extern.find fn with
   |none=>
    dsimp only;split
    ·exact okN_pure trivial
    ·exact uN _
   |some e=>exact okN_value (h.find f fn hf hb e he args)
  ·rw[if_neg hb];exact okN_pure trivial
theorem km(h:TameProg P)(r:Value)(n:String)(args:Array Value):OkN P (callMethod r n args):=by
 unfold callMethod;split
 ·refine Safe.bnd' any_program fun p=>Safe.bnd' (wt _ _ _ _) fun x=>?_;exact jJ h _ _
 ·exact yw _
 ·exact xS _
theorem zdQ(l:Nat)(args:Array Value):OkN P (Instr.yield l args):=by
 unfold Instr.yield;refine Safe.bnd' (by simp) fun r=>?_
 dsimp only;split
 ·exact Safe.bnd' (any_stuck _) fun _=>okN_pure trivial
 ·exact okN_pure trivial
theorem okN_invoke(h:TameProg P)(t:Target)(args:Array Value):OkN P (invoke t args):=by
 unfold invoke;split
 ·exact yw _
 ·exact zbl _ _ _ _ _
 ·exact jJ h _ _
 ·split
  ·exact km h _ _ _
  ·exact xS _
 ·split
  ·refine Safe.bnd' (kq _) fun _=>?_;exact km h _ _ _
  ·exact xS _
 ·split
  ·exact Safe.bnd' (wj _ _ _ _) fun _=>jJ h _ _
  ·exact xS _
 ·exact zdQ _ _
 ·exact xS _
 ·exact okN_pure rfl
theorem zby(f:Value)(args:Array Value):Any P (Deferred.ofValue f args):=by
 unfold Deferred.ofValue
 split<;>simp
theorem je(ρ:Operand->Value)(c:Call)(t:TypeId):Any P (resolve ρ c t):=by
 unfold resolve;dsimp only;split
 ·exact any_pure _
 ·exact any_pure _
 ·exact zby _ _
theorem zq5{p:Prop}(h:p:=by repeat' first|(with_reducible refine any_bind ?_ (fun _=>?_))|(simp;done)|(split)|(with_reducible intro _)|(dsimp only)):p:=h
theorem any_eqGuard(op:BinOp)(t:TypeId)(x y:Operand)(a b:Value):Any P (eqGuard op t x y a b):=by
 unfold eqGuard;exact zq5
theorem wn(t:TypeId)(x y:Value):Any P (movedNumber t x y):=by
 unfold movedNumber;exact zq5
theorem uw(t:TypeId)(x y:Value):Any P (movedPointer t x y):=by
 unfold movedPointer;exact zq5
theorem zex(op:BinOp)(t:TypeId)(x y:Value):Any P (binOp op t x y):=by
 unfold binOp
 repeat' first|(with_reducible refine any_bind ?_ (fun _=>?_))|(simp[wn,uw];done)|(split)|(with_reducible intro _)|(dsimp only)
theorem any_convert(s t:TypeId)(x:Value):Any P (convert s t x):=by
 unfold convert;exact zq5
theorem zcE(h:TameProg P)(ρ:Operand->Value)(o:Oper):OkN P (execOp ρ o):=by
 unfold execOp;cases o.op<;>dsimp only<;>first
  |exact okN_pure trivial
  |(refine okN_value ?_;simp;done)
  |(refine okN_skip ?_;simp;done)
  |exact okN_value (any_bind (any_eqGuard _ _ _ _ _ _) fun _=>zex _ _ _ _)
  |exact okN_value (any_convert _ _ _)
  |exact Safe.bnd' (je _ _ _) fun _=>okN_invoke h _ _
  |exact Safe.bnd' (je _ _ _) fun _=>okN_pure trivial
  |exact Safe.bnd' (zc8 _) fun _=>okN_pure trivial
  |(refine Safe.bnd' (kq _) fun d=>?_
    split
    ·exact Safe.bnd' (kS _) fun _=>okN_pure trivial
    ·exact xS _)
  |exact Safe.bnd' (qS (fun _=>any_bind (kS _) fun _=>any_pure _) _) fun _=>okN_pure trivial
  |skip
 split
 ·exact yw _
 ·exact yw _
 ·exact yw _
 ·split
  ·exact yw _
  ·refine Safe.bnd' any_program fun p=>Safe.bnd' (vA _ _ _ _) fun r=>?_;try dsimp only
   split
   ·exact Safe.bnd' (any_unsupported _) fun _=>okN_pure trivial
   ·exact okN_pure trivial
  ·exact okN_pure trivial
 ·exact okN_pure trivial
end
end Go.Bsd
namespace Go.Bsd
open Go.Extern
variable {P:Program}
theorem zq6{p:Prop}(h:p:=by repeat' first|(with_reducible refine any_bind ?_ (fun _=>?_))|(with_reducible refine kr ?_)|(simp;done)|(split)|(with_reducible intro _)|(dsimp only)|(refine any_forIn_range (fun _ _=>?_) _ _)|(refine yQ (fun _ _=>?_) _ _)|(refine qH (fun _ _=>?_) _ _)):p:=h
@[simp] theorem zez(h:Value):Any P (Rtype.ofHandle h):=by
 unfold Rtype.ofHandle;exact zq6
@[simp] theorem zgy(t:TypeId):Any P (Rtype.handle t):=by
 unfold Rtype.handle;exact zq6
@[simp] theorem zgx(s:String)(t:TypeId):Any P (Rtype.noPack s t):=by
 unfold Rtype.noPack;exact zq6
@[simp] theorem zda(s:String)(t:TypeId):Any P (Rtype.noPackHeld s t):=by
 unfold Rtype.noPackHeld;exact zq6
@[simp] theorem zb7(s:String)(t:TypeId):Any P (Rtype.noPackNamed s t):=by
 unfold Rtype.noPackNamed;exact zq6
@[simp] theorem zaW(s:String)(t:TypeId):Any P (Rtype.noPackMethods s t):=by
 unfold Rtype.noPackMethods;exact zq6
@[simp] theorem zgS(t:TypeId):Any P (Rtype.spelt t):=by
 unfold Rtype.spelt;exact zq6
@[simp] theorem zgR(t:TypeId):Any P (Rtype.under t):=by
 unfold Rtype.under;exact zq6
@[simp] theorem zib(t:TypeId):Any P (Rtype.kind t):=by
 unfold Rtype.kind;exact zq6
@[simp] theorem zeQ(t:TypeId):Any P (Rtype.hasName t):=by
 unfold Rtype.hasName;exact zq6
@[simp] theorem zgT(t:TypeId):Any P (Rtype.elem? t):=by
 unfold Rtype.elem?
 exact zq6
@[simp] theorem zdb(T V:TypeId):Any P (Rtype.implements T V):=by
 unfold Rtype.implements;exact zq6
@[simp] theorem wV(T V:TypeId):Any P (Rtype.directlyAssignable T V):=by
 unfold Rtype.directlyAssignable;exact zq6
@[simp] theorem jq(t:TypeId):Any P (ReflectliteType.toType t):=by
 unfold ReflectliteType.toType;exact zq6
@[simp] theorem gG(v:Value):Any P (ReflectliteType.ofRtype v):=by
 unfold ReflectliteType.ofRtype;cases v with
 |agg q=>
  rcases q with⟨_|⟨h,_|⟨b,l⟩⟩⟩
  ·exact any_stuck _
  ·exact any_bind (by simp) fun _=>any_bind (by simp) fun _=>any_pure _
  ·exact any_stuck _
 |_=>exact any_stuck _
@[simp] theorem gO(a:Array Value):Any P (ReflectliteType.typeOf a):=by
 unfold ReflectliteType.typeOf;rcases a with⟨_|⟨x,_|⟨b,l⟩⟩⟩
 ·exact any_stuck _
 ·cases x with
  |nilIface=>exact any_pure _
  |iface t v=>exact jq t
  |_=>exact any_stuck _
 ·exact any_stuck _
@[simp] theorem zaS(t:TypeId):Any P (ReflectliteType.elem t):=by
 unfold ReflectliteType.elem;exact zq6
@[simp] theorem zaR(t:TypeId):Any P (ReflectliteType.name t):=by
 unfold ReflectliteType.name;exact zq6
@[simp] theorem gF(t:TypeId):Any P (ReflectliteType.pkgPath t):=by
 unfold ReflectliteType.pkgPath;exact zq6
@[simp] theorem uB(u t:TypeId):Any P (ReflectliteType.implements_ u t):=by
 unfold ReflectliteType.implements_;exact zq6
@[simp] theorem uy(u t:TypeId):Any P (ReflectliteType.assignableTo u t):=by
 unfold ReflectliteType.assignableTo;exact zq6
@[simp] theorem zaX(t:TypeId)(a:Addr)(f:Nat):Any P (ReflectliteValue.mk t a f):=by
 unfold ReflectliteValue.mk;exact zq6
@[simp] theorem gE(v:Value):Any P (ReflectliteValue.unpack v):=by
 unfold ReflectliteValue.unpack;exact zq6
@[simp] theorem uA{α:Type}(m:String)(k:Nat):Any P (ReflectliteValue.valueError m k:Sem α):=by
 unfold ReflectliteValue.valueError;exact zq6
@[simp] theorem wD(v:Value):Any P (ReflectliteValue.partsAny v):=by
 unfold ReflectliteValue.partsAny;cases v with
 |agg q=>
  rcases q with⟨_|⟨h,_|⟨p,_|⟨z,_|⟨d,l⟩⟩⟩⟩⟩
  ·exact any_stuck _
  ·exact any_stuck _
  ·exact any_stuck _
  ·cases z with
   |int k n=>
    cases k with
    |u64=>
     rcases n with(_|n)|n
     ·exact any_pure _
     all_goals
      cases p with
      |pointer o=>
       cases o with
       |none=>exact any_stuck _
       |some a=>exact any_bind (by simp) fun _=>any_pure _
      |_=>exact any_stuck _
    |_=>exact any_stuck _
   |_=>exact any_stuck _
  ·exact any_stuck _
 |_=>exact any_stuck _
@[simp] theorem gM(v:Value):Any P (ReflectliteValue.parts v):=by
 unfold ReflectliteValue.parts;exact zq6
@[simp] theorem gN(t:TypeId)(a:Addr)(f k:Nat):Any P (ReflectliteValue.isNil t a f k):=by
 unfold ReflectliteValue.isNil;exact zq6
@[simp] theorem zaQ(t:TypeId)(a:Addr)(f k:Nat):Any P (ReflectliteValue.len t a f k):=by
 unfold ReflectliteValue.len;exact zq6
@[simp] theorem gU(t:TypeId)(a:Addr)(f k:Nat):Any P (ReflectliteValue.elem t a f k):=by
 unfold ReflectliteValue.elem;exact zq6
@[simp] theorem zaP(a:Array Value):Any P (ReflectliteValue.set a):=by
 unfold ReflectliteValue.set;rcases a with⟨_|⟨x,_|⟨y,_|⟨z,l⟩⟩⟩⟩
 ·exact any_stuck _
 ·exact any_stuck _
 ·refine any_bind (by simp) fun r=>any_bind (by simp) fun r'=>?_
  cases r with
  |none=>exact any_unsupported _
  |some d=>
   cases r' with
   |none=>exact any_unsupported _
   |some e=>
    obtain⟨d1,d2,d3⟩:=d
    obtain⟨e1,e2,e3⟩:=e
    dsimp only;exact zq6
 ·exact any_stuck _
@[simp] theorem wy(a:Array Value):Any P (ReflectliteValue.errorText a):=by
 unfold ReflectliteValue.errorText;rcases a with⟨_|⟨x,_|⟨y,l⟩⟩⟩
 ·exact any_stuck _
 ·cases x with
  |pointer o=>
   cases o with
   |none=>exact any_runtimePanic _
   |some e=>exact any_bind (by simp) fun _=>any_bind (by simp) fun _=>any_bind (by simp) fun _=>any_bind (by simp) fun _=>any_pure _
  |_=>exact any_stuck _
 ·exact any_stuck _
@[simp] theorem kt(s:String):Any P (RuntimeError.text s):=by
 unfold RuntimeError.text;exact zq6
@[simp] theorem wU(a:Array Value):Any P (RuntimeError.boundsError a):=by
 unfold RuntimeError.boundsError;rcases a with⟨_|⟨x,_|⟨y,l⟩⟩⟩
 ·exact any_stuck _
 ·cases x with
  |agg q=>
   rcases q with⟨_|⟨b1,_|⟨b2,_|⟨b3,_|⟨b4,_|⟨b5,l⟩⟩⟩⟩⟩⟩
   ·exact any_stuck _
   ·exact any_stuck _
   ·exact any_stuck _
   ·exact any_stuck _
   ·cases b1 with
    |int k1 n1=>
     cases b2 with
     |int k2 n2=>
      cases b3 with
      |bool s=>
       cases b4 with
       |int k4 n4=>
        refine(?_:Any P (match (if (s&&decide (n1<0))=true then RuntimeError.boundsNegErrorFmts else RuntimeError.boundsErrorFmts)[n4.toNat]? with
         |some fmt=>RuntimeError.text ("runtime error: " ++(fmt.replace "%x" (toString (if s then n1 else IntKind.u64.wrap n1))).replace "%y" (toString n2))
         |none=>stuck "boundsError: no such code"))
        split
        ·simp
        ·exact any_stuck _
       |_=>exact any_stuck _
      |_=>exact any_stuck _
     |_=>exact any_stuck _
    |_=>exact any_stuck _
   ·exact any_stuck _
  |_=>exact any_stuck _
 ·exact any_stuck _
@[simp] theorem jo(v:Value):Any P (RuntimeError.described v):=by
 unfold RuntimeError.described;exact zq6
@[simp] theorem jn(i:TypeInfo):Any P (RuntimeError.pkgpathOf i):=by
 unfold RuntimeError.pkgpathOf;exact zq6
@[simp] theorem vO(a:Array Value):Any P (RuntimeError.typeAssertionError a):=by
 unfold RuntimeError.typeAssertionError
 repeat' first|(with_reducible refine any_bind ?_ (fun _=>?_))|exact zaM _ _|exact zc9 _|exact zaN _|exact jo _|exact jn _|exact kt _|exact any_unsupported _|exact any_runtimePanic _|exact any_pure _|split|(dsimp only)
@[simp] theorem vB(a:Array Value):Any P (RuntimeError.unhashableTypeError a):=by
 unfold RuntimeError.unhashableTypeError;rcases a with⟨_|⟨x,_|⟨y,l⟩⟩⟩
 ·exact any_stuck _
 ·cases x with
  |agg q=>
   rcases q with⟨_|⟨b1,_|⟨b2,l⟩⟩⟩
   ·exact any_stuck _
   ·refine any_bind (by simp) fun r=>?_
    cases r with
    |none=>exact any_runtimePanic _
    |some t=>simp
   ·exact any_stuck _
  |_=>exact any_stuck _
 ·exact any_stuck _
@[simp] theorem zaO(a:Array Value):Any P (RuntimeError.nothing a):=by
 unfold RuntimeError.nothing;exact zq6
theorem yV{f:TypeId->Sem Value}(hf:∀t,Any P (f t))(a:Array Value):Any P (ReflectliteType.method f a):=by
 unfold ReflectliteType.method;rcases a with⟨_|⟨a,_|⟨b,l⟩⟩⟩
 ·exact any_stuck _
 ·exact any_bind (by simp) fun _=>hf _
 ·exact any_stuck _
theorem jN{f:TypeId->Sem Value}(hf:∀t,Any P (f t))(a:Array Value):Any P (ReflectliteType.abiMethod f a):=by
 unfold ReflectliteType.abiMethod;rcases a with⟨_|⟨a,_|⟨b,l⟩⟩⟩
 ·exact any_stuck _
 ·exact any_bind (by simp) fun _=>any_bind (by simp) fun _=>hf _
 ·exact any_stuck _
theorem jZ{f:TypeId->TypeId->Sem Bool}(hf:∀t u,Any P (f t u))(m:String)(a:Array Value):Any P (ReflectliteType.relation m f a):=by
 unfold ReflectliteType.relation;rcases a with⟨_|⟨a,_|⟨b,_|⟨c,l⟩⟩⟩⟩
 ·exact any_stuck _
 ·exact any_stuck _
 ·cases b with
  |nilIface=>exact wm _
  |iface t u=>exact any_bind (by simp) fun _=>any_bind (by simp) fun _=>any_bind (hf _ _) fun _=>any_pure _
  |_=>exact any_stuck _
 ·exact any_stuck _
theorem qo{z:Sem Value}{f:TypeId->Addr->Nat->Nat->Sem Value}(hz:Any P z)(hf:∀t a b c,Any P (f t a b c))(a:Array Value):Any P (ReflectliteValue.method z f a):=by
 unfold ReflectliteValue.method;rcases a with⟨_|⟨a,_|⟨b,l⟩⟩⟩
 ·exact any_stuck _
 ·refine any_bind (by simp) fun r=>?_
  cases r with
  |none=>exact hz
  |some x=>exact hf _ _ _ _
 ·exact any_stuck _
theorem qt{z:Sem Value}{f:TypeId->Addr->Nat->Nat->Sem Value}(hz:Any P z)(hf:∀t a b c,Any P (f t a b c))(a:Array Value):Any P (ReflectliteValue.methodAny z f a):=by
 unfold ReflectliteValue.methodAny;rcases a with⟨_|⟨a,_|⟨b,l⟩⟩⟩
 ·exact any_stuck _
 ·refine any_bind (by simp) fun r=>?_
  cases r with
  |none=>exact hz
  |some x=>exact hf _ _ _ _
 ·exact any_stuck _
def jQ(P:Program)(l:List (String×(Array Value->Sem Value))):Prop:=∀x∈l,∀a,Any P (x.2 a)
theorem kL:jQ P []:=fun x h=>by cases h
theorem allAny_cons{n:String}{e:Array Value->Sem Value}{l:List (String×(Array Value->Sem Value))}(h:∀a,Any P (e a))(hl:jQ P l):jQ P ((n,e)::l):=by
 intro x hx;rcases List.mem_cons.1 hx with rfl|hx
 ·exact h
 ·exact hl x hx
theorem allAny_types:jQ P ReflectliteType.rows:=by
 unfold ReflectliteType.rows;refine allAny_cons (fun a=>by simp) (allAny_cons (yV fun t=>by simp) (allAny_cons (yV fun t=>any_bind (by simp) fun _=>any_bind (by simp) fun _=>any_pure _) (allAny_cons (yV fun t=>any_bind (by simp) fun _=>any_bind (by simp) fun _=>any_pure _) (allAny_cons (yV fun t=>any_bind (by simp) fun _=>by simp) (allAny_cons (yV fun t=>any_bind (by simp) fun _=>by simp) (allAny_cons (jZ (fun t u=>by simp) _) (allAny_cons (jZ (fun t u=>by simp) _) (allAny_cons (yV fun t=>by simp) (allAny_cons (jN fun t=>any_bind (by simp) fun _=>any_pure _) (allAny_cons (jN fun t=>any_bind (by simp) fun _=>any_bind (by simp) fun _=>any_pure _) (allAny_cons (fun a=>any_bind (by simp) fun _=>any_pure _) kL)))))))))))
theorem yF:jQ P ReflectliteValue.rows:=by
 unfold ReflectliteValue.rows;refine allAny_cons (fun a=>by simp) (allAny_cons (qt (by simp) fun _ _ _ _=>by simp) (allAny_cons (qo (by simp) fun _ _ _ _=>by simp) (allAny_cons (qt (by simp) fun _ _ _ _=>by simp) (allAny_cons (qt (by simp) fun _ _ _ _=>by simp) (allAny_cons (qo (by simp) fun _ _ _ _=>by simp) (allAny_cons (qo (by simp) fun _ _ _ _=>by simp) (allAny_cons (qo (by simp) fun _ _ _ _=>by simp) (allAny_cons (fun a=>by simp) (allAny_cons (fun a=>by simp) kL)))))))))
theorem zL:jQ P RuntimeError.rows:=by
 unfold RuntimeError.rows;refine allAny_cons (fun a=>any_bind (by simp) fun _=>any_pure _) (allAny_cons (fun a=>any_bind (by simp) fun _=>any_pure _) (allAny_cons (fun a=>any_bind (by simp) fun _=>any_bind (by simp) fun _=>any_pure _) (allAny_cons (fun a=>any_bind (by simp) fun _=>any_bind (by simp) fun _=>any_pure _) (allAny_cons (fun a=>by simp) (allAny_cons (fun a=>by simp) (allAny_cons (fun a=>by simp) (allAny_cons (fun a=>by simp) ?_)))))))
 repeat' first|exact kL|refine allAny_cons (fun a=>by simp) ?_
end Go.Bsd
