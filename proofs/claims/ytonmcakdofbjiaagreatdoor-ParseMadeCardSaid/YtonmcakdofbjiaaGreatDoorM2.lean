/- A part. -/
import Derived.Test.YtonmcakdofbjiaaGreatDoorM1
import Derived.Laws.Sem
set_option linter.all false
set_option maxRecDepth 100000
set_option maxHeartbeats 8000000
namespace Go.Bsd
variable {P:Program}
abbrev Any{α:Type}(P:Program)(s:Sem α):Prop:=Safe P (fun _=>True) 0 s
@[simp] theorem any_pure{α:Type}(a:α):Any P (pure a:Sem α):=⟨rfl,trivial⟩
theorem any_bind{α β:Type}{f:α->Sem β}{s:Sem α}(h:Any P s)(hf:∀a,Any P (f a)):Any P (s >>= f):=Safe.bnd' h hf
theorem kr{α β:Type}{f:α->β}{s:Sem α}(h:Any P s):Any P (f <$> s):=any_bind h fun _=>any_pure _
@[simp] theorem any_stuck{α:Type}(s:String):Any P (stuck s:Sem α):=⟨by simp, .inl rfl⟩
@[simp] theorem any_unsupported{α:Type}(u:Unsupported):Any P (unsupported u:Sem α):=⟨by simp, .inl rfl⟩
@[simp] theorem zjl{α:Type}(v:Value):Any P (goPanic v:Sem α):=⟨by simp, .inl rfl⟩
@[simp] theorem zj7{α:Type}(s:String):Any P (throw s:Sem α):=⟨by simp, .inl rfl⟩
@[simp] theorem zaM(a:Addr)(m:Mode):Any P (load a m):=fun _=>⟨rfl,trivial⟩
@[simp] theorem zev(a:Addr)(v:Value)(m:Mode):Any P (store a v m):=⟨rfl,trivial⟩
@[simp] theorem zjZ(o:Obj):Any P (newObj o):=fun _=>⟨rfl,trivial⟩
@[simp] theorem zj8(r:Nat):Any P (shape r):=fun _=>⟨rfl,trivial⟩
@[simp] theorem zj2(a:Addr)(n:Nat):Any P (freeze a n):=⟨rfl,trivial⟩
@[simp] theorem zj1(a:Addr):Any P (frozen a):=fun _=>⟨rfl,trivial⟩
@[simp] theorem zj0(r:Nat):Any P (getObj r):=fun _=>⟨rfl,trivial⟩
@[simp] theorem zjT(r:Nat)(o:Obj):Any P (setObj r o):=⟨rfl,trivial⟩
@[simp] theorem kI(q:Question):Any P (choose q):=fun _=>⟨rfl,trivial⟩
@[simp] theorem any_program:Any P program:=⟨rfl,trivial⟩
@[simp] theorem zjW:Any P (mark .noRoom):= .inr (.inr ⟨by simp,by simp,rfl,trivial⟩)
@[simp] theorem zc7(f:FuncId):Any P (mark (.extern f)):= .inr (.inr ⟨by simp,by simp,rfl,trivial⟩)
theorem yQ{α β:Type}{f:α->β->Sem (ForInStep β)}(hf:∀a b,Any P (f a b)):∀(l:List α) (b:β),Any P (forIn l b f)
 |[],b=>any_pure b
 |a::l,b=>by
  rw[List.forIn_cons];refine any_bind (hf a b) fun x=>?_;cases x with
  |done b=>exact any_pure b
  |yield b=>exact yQ hf l b
theorem any_forIn_range{β:Type}{f:Nat->β->Sem (ForInStep β)}(hf:∀a b,Any P (f a b))(r:Std.Legacy.Range)(b:β):Any P (forIn r b f):=by
 rw[Std.Legacy.Range.forIn_eq_forIn_range'];exact yQ hf _ _
theorem qH{α β:Type}{f:α->β->Sem (ForInStep β)}(hf:∀a b,Any P (f a b))(l:Array α)(b:β):Any P (forIn l b f):=by
 rw[<-Array.forIn_toList];exact yQ hf _ _
theorem zb6{α:Type}{c:Prop}[Decidable c]{a b:Sem α}(ha:c->Any P a)(hb:¬c->Any P b):Any P (if c then a else b):=by
 split
 ·exact ha ‹_›
 ·exact hb ‹_›
theorem ww{α β:Type}{f:β->α->Sem β}(hf:∀b a,Any P (f b a)):∀(l:List α) (b:β),Any P (l.foldlM f b)
 |[],b=>any_pure b
 |a::l,b=>by rw[List.foldlM_cons];exact any_bind (hf b a) fun _=>ww hf l _
theorem kT{α β:Type}{f:α->Sem β}(hf:∀a,Any P (f a)):∀(l:List α),Any P (l.mapM f)
 |[]=>by rw[List.mapM_nil];exact any_pure _
 |a::l=>by rw[List.mapM_cons];exact any_bind (hf a) fun _=>any_bind (kT hf l) fun _=>any_pure _
theorem qS{α β:Type}{f:α->Sem β}(hf:∀a,Any P (f a))(l:Array α):Any P (l.mapM f):=by
 rw[Array.mapM_eq_mapM_toList];exact kr (kT hf _)
theorem j4{α β:Type}:∀(l:List α) (f:(a:α)->a∈l->β->Sem (ForInStep β)),(∀a h b,Any P (f a h b))->∀(b:β),Any P (forIn' l b f)
 |[],_,_,b=>any_pure b
 |a::l,f,hf,b=>by
  rw[List.forIn'_cons];refine any_bind (hf a _ b) fun x=>?_;cases x with
  |done b=>exact any_pure b
  |yield b=>exact j4 l _ (fun a h b=>hf a _ b) b
theorem ux{β:Type}(r:Std.Legacy.Range)(f:(a:Nat)->a∈r->β->Sem (ForInStep β))(hf:∀a h b,Any P (f a h b))(b:β):Any P (forIn' r b f):=by
 rw[Std.Legacy.Range.forIn'_eq_forIn'_range'];exact j4 _ _ (fun a h b=>hf a _ b) b
attribute [local irreducible] Safe
@[simp] theorem kq(t:TypeId):Any P (underlying t):=by
 unfold underlying;refine any_bind any_program fun _=>?_;split
 ·exact any_pure _
 ·exact any_stuck _
theorem zq1{p:Prop}(h:p:=by repeat' first|(with_reducible refine any_bind ?_ (fun _=>?_))|(with_reducible refine kr ?_)|(simp;done)|(split)|(with_reducible intro _)|(dsimp only)|(refine any_forIn_range (fun _ _=>?_) _ _)|(refine yQ (fun _ _=>?_) _ _)|(refine qH (fun _ _=>?_) _ _)|(refine ww (fun _ _=>?_) _ _)|(refine qS (fun _=>?_) _)|(refine ux _ _ (fun _ _ _=>?_) _)):p:=h
@[simp] theorem zjo(bytes:Nat):Any P (askRoom bytes):=by
 unfold askRoom;exact zq1
@[simp] theorem zjR(r:Nat):Any P (viewAt r):=by
 unfold viewAt;exact zq1
@[simp] theorem zi9(r:Nat):Any P (numberAt r):=by
 unfold numberAt;exact zq1
@[simp] theorem zjn(r:Nat):Any P (cellsIn r):=by
 unfold cellsIn;exact zq1
@[simp] theorem zjb(a:Addr)(lost:Bool):Any P (asNumber a lost):=by
 unfold asNumber;exact zq1
@[simp] theorem zgw(n:Addr):Any P (behindNumber n):=by
 unfold behindNumber;exact zq1
@[simp] theorem zey(n:Addr):Any P (backFromNumber n):=by
 unfold backFromNumber;exact zq1
@[simp] theorem zjV(a:Addr):Any P (noView a):=by
 unfold noView;exact zq1
@[simp] theorem zeP(a:Addr):Any P (markStringish a):=by
 unfold markStringish;exact zq1
@[simp] theorem zii(a:Addr):Any P (stringish a):=by
 unfold stringish;exact zq1
@[simp] theorem zja(a b:Addr):Any P (mayBeOne a b):=by
 unfold mayBeOne;exact zq1
@[simp] theorem zi8(a b:Addr):Any P (sameAddr a b):=by
 unfold sameAddr;exact zq1
@[simp] theorem zgO(v1:Option Addr)(v2:Option Addr):Any P (samePointer v1 v2):=by
 unfold samePointer;exact zq1
@[simp] theorem zaL(t:TypeId):Any P (typeInfo t):=by
 unfold typeInfo;exact zq1
@[simp] theorem zjm(name:String):Any P (cutType name):=by
 unfold cutType;exact zq1
@[simp] theorem zh9(name:String):Any P (globalAddr name):=by
 unfold globalAddr;exact zq1
@[simp] theorem zjj(t:TypeId):Any P (typeStr t):=by
 unfold typeStr;exact zq1
@[simp] theorem kS(t:TypeId):Any P (zeroValue t):=by
 unfold zeroValue;exact zq1
@[simp] theorem zjS(t:TypeId):Any P (sizeOf t):=by
 unfold sizeOf;exact zq1
@[simp] theorem zj9(t:TypeId):Any P (isAgg t):=by
 unfold isAgg;exact zq1
@[simp] theorem vS(a:Addr):∀(n i:Nat) (acc:Array Value),Any P (loadCellsFrom a i n acc)
 |0,_,acc=>any_pure acc
 |n+1,i,acc=>any_bind (zaM _ _) fun _=>vS a n (i+1) _
@[simp] theorem zij(a:Addr)(n:Nat):Any P (loadCells a n):=by
 unfold loadCells;exact zq1
@[simp] theorem wT(a:Addr):∀(vs:List Value) (i:Nat),Any P (storeCells a vs i)
 |[],_=>any_pure _
 |v::rest,i=>any_bind (zev _ _ _) fun _=>wT a rest (i+1)
@[simp] theorem zjk(t:TypeId)(a:Addr):Any P (loadVar t a):=by
 unfold loadVar;exact zq1
@[simp] theorem zi7(t:TypeId)(a:Addr)(v:Value):Any P (storeVar t a v):=by
 unfold storeVar;exact zq1
@[simp] theorem zjY(elem:TypeId)(cells:Array Value):Any P (newRow elem cells):=by
 unfold newRow;exact zq1
@[simp] theorem zjX(t:TypeId)(v:Value):Any P (newVar t v):=by
 unfold newVar;exact zq1
@[simp] theorem zj3(t:TypeId):Any P (elemOf t):=by
 unfold elemOf;exact zq1
@[simp] theorem zkd(t:TypeId)(cs:Array Value)(off:Nat):Any P (part t cs off):=by
 unfold part;exact zq1
@[simp] theorem wm{α:Type}(msg:String):Any P (panicString msg:Sem α):=by
 unfold panicString;exact zq1
@[simp] theorem zgP(name:String):Any P (externState name):=by
 unfold externState;exact zq1
@[simp] theorem any_runtimePanic{α:Type}(e:RuntimeError):Any P (runtimePanic e:Sem α):=by
 unfold runtimePanic;exact zq1
@[simp] theorem zgQ{α:Type}(k:IntKind)(x y:Int)(code:BoundsCode):Any P (boundsPanic k x y code:Sem α):=by
 unfold boundsPanic;exact zq1
@[simp] theorem zjp(v1:Value):Any P (asIntOf v1):=by
 unfold asIntOf;exact zq1
@[simp] theorem zka(v:Value):Any P (asInt v):=by
 unfold asInt;exact zq1
@[simp] theorem zc8(v1:Value):Any P (asBool v1):=by
 unfold asBool;exact zq1
@[simp] theorem zaN(v1:Value):Any P (asString v1):=by
 unfold asString;exact zq1
@[simp] theorem zkb(v1:Value):Any P (asAgg v1):=by
 unfold asAgg;exact zq1
@[simp] theorem zc9(v1:Value):Any P (asAddr v1):=by
 unfold asAddr;exact zq1
@[simp] theorem zj4(a:Addr):Any P (byteOf a):=by
 unfold byteOf;exact zq1
@[simp] theorem zjU(base:Addr)(cells bytes:Nat):Any P (partAt base cells bytes):=by
 unfold partAt;exact zq1
@[simp] theorem zia(a:Addr)(f:Field):Any P (fieldPlace a f):=by
 unfold fieldPlace;exact zq1
@[simp] theorem zgN(a:Addr)(u:TypeId)(n:Nat):Any P (variablesAt a u n):=by
 unfold variablesAt;exact zq1
@[simp] theorem zew(k:IntKind)(a:Addr)(n:Nat):Any P (intVariablesAt k a n):=by
 unfold intVariablesAt;exact zq1
@[simp] theorem zdn(a:Addr)(n:Nat):Any P (byteVariablesAt a n):=by
 unfold byteVariablesAt;exact zq1
@[simp] theorem any_loadBytes:∀(n:Nat) (a:Addr) (acc:ByteArray),Any P (loadBytes a acc n)
 |0,_,acc=>any_pure acc
 |n+1,a,acc=>by
  unfold loadBytes
  repeat' first|(with_reducible refine any_bind ?_ (fun _=>?_))|(simp[any_loadBytes];done)|(split)|(with_reducible intro _)|(dsimp only)|exact any_loadBytes n _ _
@[simp] theorem any_Op_twoPlaces(a b:Addr):Any P (Op.twoPlaces a b):=by
 unfold Op.twoPlaces;exact zq1
@[simp] theorem zid(k:IntKind)(a b:Addr):Any P (Op.addrSub k a b):=by
 unfold Op.addrSub;exact zq1
@[simp] theorem zif(op:BinOp)(a b:Addr):Any P (Op.addrCmp op a b):=by
 unfold Op.addrCmp;exact zq1
@[simp] theorem zie(k:IntKind)(a:Addr)(n:Int):Any P (Op.addrMod k a n):=by
 unfold Op.addrMod;exact zq1
@[simp] theorem zgV(op:BinOp)(k:IntKind)(x y:Int):Any P (Op.intArith op k x y):=by
 unfold Op.intArith;exact zq1
@[simp] theorem zik(op:BinOp)(k:IntKind)(x y:Int):Any P (Op.intDiv op k x y):=by
 unfold Op.intDiv;exact zq1
@[simp] theorem zic(op:BinOp)(k:IntKind)(x y:Int):Any P (Op.intBits op k x y):=by
 unfold Op.intBits;exact zq1
@[simp] theorem zil(op:BinOp)(x y:Int):Any P (Op.intCmp op x y):=by
 unfold Op.intCmp;exact zq1
@[simp] theorem zjd(op:BinOp)(k:IntKind)(x:Int)(_yk:IntKind)(y:Int):Any P (Op.shift op k x _yk y):=by
 unfold Op.shift;exact zq1
@[simp] theorem zeR(op:BinOp)(k:FloatKind)(x y:Nat):Any P (Op.floatArith op k x y):=by
 unfold Op.floatArith;exact zq1
@[simp] theorem zgW(op:BinOp)(k:FloatKind)(x y:Nat):Any P (Op.floatCmp op k x y):=by
 unfold Op.floatCmp;exact zq1
@[simp] theorem zgU(op:BinOp)(x y:ByteArray):Any P (Op.stringOp op x y):=by
 unfold Op.stringOp;exact zq1
@[simp] theorem zjc(op:UnOp)(x:Value):Any P (Op.unary op x):=by
 unfold Op.unary;exact zq1
@[simp] theorem zb9(src:FloatKind)(bits:Nat)(dst:FloatKind):Any P (Conv.floatToFloat src bits dst):=by
 unfold Conv.floatToFloat;exact zq1
@[simp] theorem yM(op:BinOp)(k:FloatKind)(x y:Nat):Any P (Op.Complex.arith op k x y):=by
 unfold Op.Complex.arith
 repeat' first|(with_reducible refine any_bind ?_ (fun _=>?_))|(simp;done)|(split)
@[simp] theorem zeE(x y:Nat):Any P (Op.Complex.add x y):=yM _ _ _ _
@[simp] theorem zeA(x y:Nat):Any P (Op.Complex.sub x y):=yM _ _ _ _
@[simp] theorem zeC(x y:Nat):Any P (Op.Complex.mul x y):=yM _ _ _ _
@[simp] theorem zeB(x y:Nat):Any P (Op.Complex.quo x y):=yM _ _ _ _
@[simp] theorem zeD(op:BinOp)(k:FloatKind)(x y:Nat):Any P (Op.Complex.cmp op k x y):=by
 unfold Op.Complex.cmp;exact zq1
@[simp] theorem zdo(src:FloatKind)(x:Nat)(dst:FloatKind):Any P (Op.Complex.conv src x dst):=by
 unfold Op.Complex.conv
 exact zq1
@[simp] theorem zbz(a b c d:Nat):Any P (Op.Complex.product a b c d):=by
 unfold Op.Complex.product;exact zq1
@[simp] theorem zaT(scale a b c d:Nat):Any P (Op.Complex.corrected scale a b c d):=by
 unfold Op.Complex.corrected;exact zq1
@[simp] theorem zaY(a b c d:Nat):Any P (Op.Complex.quotient a b c d):=by
 unfold Op.Complex.quotient;exact zq1
@[simp] theorem zgz(op:BinOp)(k:FloatKind)(xr xi yr yi:Nat):Any P (Op.complexOp op k xr xi yr yi):=by
 unfold Op.complexOp;exact zq1
@[simp] theorem ze2(dst:IntKind)(n:Int):Any P (Conv.intToInt dst n):=by
 unfold Conv.intToInt;exact zq1
@[simp] theorem zds(dst:FloatKind)(n:Int):Any P (Conv.intToFloat dst n):=by
 unfold Conv.intToFloat;exact zq1
@[simp] theorem zdt(src:FloatKind)(bits:Nat)(dst:IntKind):Any P (Conv.floatToInt src bits dst):=by
 unfold Conv.floatToInt;exact zq1
@[simp] theorem gV(src:FloatKind)(re im:Nat)(dst:FloatKind):Any P (Conv.complexToComplex src re im dst):=by
 unfold Conv.complexToComplex;exact zq1
@[simp] theorem zdg(n:Int):Any P (Conv.intToString n):=by
 unfold Conv.intToString;exact zq1
@[simp] theorem zbF(elem:TypeId)(s:ByteArray):Any P (Conv.stringToBytes elem s):=by
 unfold Conv.stringToBytes;exact zq1
@[simp] theorem zbH(x:Value):Any P (Conv.bytesToString x):=by
 unfold Conv.bytesToString;exact zq1
@[simp] theorem zbE(elem:TypeId)(s:ByteArray):Any P (Conv.stringToRunes elem s):=by
 unfold Conv.stringToRunes;exact zq1
@[simp] theorem zbG(x:Value):Any P (Conv.runesToString x):=by
 unfold Conv.runesToString;exact zq1
theorem zq2{p:Prop}(h:p:=by repeat' first|(with_reducible refine any_bind ?_ (fun _=>?_))|(simp[ih];done)|(split)|(with_reducible intro _)|(dsimp only)|(refine any_forIn_range (fun _ _=>?_) _ _)|(refine yQ (fun _ _=>?_) _ _)|(refine qH (fun _ _=>?_) _ _)):p:=h
@[simp] theorem wW:∀(d:Nat) (t:TypeId) (x y:Value),Any P (Op.equalIn d t x y)
 |0,_,_,_=>any_unsupported _
 |d+1,t,x,y=>by
  unfold Op.equalIn;have ih:=fun t x y=>wW d t x y;exact zq2
@[simp] theorem zje(t:TypeId)(x y:Value):Any P (Op.equal t x y):=by
 unfold Op.equal;exact zq1
@[simp] theorem uz:∀(d:Nat) (t:TypeId) (x y:Value),Any P (Op.eqGuardIn d t x y)
 |0,_,_,_=>any_unsupported _
 |d+1,t,x,y=>by
  unfold Op.eqGuardIn;have ih:=fun t x y=>uz d t x y;exact zq2
@[simp] theorem zdd(x:Value)(y:Nat)(code:BoundsCode):Any P (Instr.sliceBound x y code):=by
 unfold Instr.sliceBound;exact zq1
@[simp] theorem zb8(isSlice:Bool)(len cap:Nat)(low high max:Option Value):Any P (Instr.sliceBounds isSlice len cap low high max):=by
 unfold Instr.sliceBounds;exact zq1
@[simp] theorem zgY(xType:TypeId)(x:Value)(low high max:Option Value):Any P (Instr.slice xType x low high max):=by
 unfold Instr.slice;exact zq1
@[simp] theorem zeF(v1:Value):Any P (Instr.sureAddr v1):=by
 unfold Instr.sureAddr;exact zq1
@[simp] theorem zgC(t:TypeId)(addr:Value):Any P (Instr.loadAt t addr):=by
 unfold Instr.loadAt;exact zq1
@[simp] theorem zeS(t:TypeId)(addr val:Value):Any P (Instr.storeAt t addr val):=by
 unfold Instr.storeAt;exact zq1
@[simp] theorem zeY(s:TypeId)(addr:Value)(field:Nat):Any P (Instr.fieldAt s addr field):=by
 unfold Instr.fieldAt;exact zq1
@[simp] theorem zeV(t:TypeId)(x index:Value):Any P (Instr.indexAt t x index):=by
 unfold Instr.indexAt;exact zq1
@[simp] theorem zeT(t:TypeId)(x:Value)(low high max:Option Value):Any P (Instr.sliceAt t x low high max):=by
 unfold Instr.sliceAt;exact zq1
@[simp] theorem ze1(arr:TypeId)(x:Value):Any P (Instr.arrayAt arr x):=by
 unfold Instr.arrayAt;exact zq1
@[simp] theorem zg6(elem:TypeId)(heap:Bool)(old:Value):Any P (Instr.alloc elem heap old):=by
 unfold Instr.alloc;exact zq1
@[simp] theorem zim(elem:TypeId)(v:Value):Any P (Instr.box elem v):=by
 unfold Instr.box;exact zq1
@[simp] theorem zg5(t:TypeId)(parts:Array (Nat×Value)):Any P (Instr.build t parts):=by
 unfold Instr.build;exact zq1
@[simp] theorem zdf(t:TypeId)(len:Nat)(parts:Array (Nat×Value)):Any P (Instr.buildSlice t len parts):=by
 unfold Instr.buildSlice;exact zq1
@[simp] theorem zgX(g:Nat):Any P (Instr.waits g):=by
 unfold Instr.waits;exact zq1
@[simp] theorem zgZ(g:Nat):Any P (Instr.ready g):=by
 unfold Instr.ready;exact zq1
@[simp] theorem zaZ(xType:TypeId)(x:Value):Any P (Instr.makeInterface xType x):=by
 unfold Instr.makeInterface;exact zq1
@[simp] theorem zeI(fn:Fn)(first captured:Array Value):Any P (Instr.makeFunc fn first captured):=by
 unfold Instr.makeFunc;exact zq1
@[simp] theorem zeU(t:TypeId)(reserve:Option Value):Any P (Instr.makeMap t reserve):=by
 unfold Instr.makeMap;exact zq1
@[simp] theorem zeJ(t:TypeId)(size:Value):Any P (Instr.makeChan t size):=by
 unfold Instr.makeChan;exact zq1
@[simp] theorem zdq(t:TypeId)(len cap:Value):Any P (Instr.makeSlice t len cap):=by
 unfold Instr.makeSlice;exact zq1
@[simp] theorem zg3(xType:TypeId)(x:Value)(field:Nat):Any P (Instr.field xType x field):=by
 unfold Instr.field;exact zq1
@[simp] theorem zg2(xType:TypeId)(x index:Value):Any P (Instr.index xType x index):=by
 unfold Instr.index;exact zq1
@[simp] theorem vC(e:Bool):∀(d:Nat) (t:TypeId) (x:Value),Any P (Instr.checkKey e d t x)
 |0,_,_=>any_unsupported _
 |d+1,t,x=>by
  unfold Instr.checkKey;have ih:=fun t x=>vC e d t x;exact zq2
theorem zq3{p:Prop}(h:p:=by repeat' first|(with_reducible refine any_bind ?_ (fun _=>?_))|(simp[ih];done)|(split)|(with_reducible intro _)|(dsimp only)):p:=h
@[simp] theorem kJ(t:TypeId)(k:Value):∀(l:List MapEntry) (i:Nat),Any P (Instr.findAsking t k l i)
 |[],_=>any_pure _
 |e::es,i=>by
  unfold Instr.findAsking;have ih:=fun i=>kJ t k es i;exact zq3
@[simp] theorem zeX(keyType:TypeId)(k:Value)(es:List MapEntry):Any P (Instr.findKey keyType k es):=by
 unfold Instr.findKey;exact zq1
@[simp] theorem zgA(xType:TypeId)(x index:Value)(commaOk:Bool):Any P (Instr.lookup xType x index commaOk):=by
 unfold Instr.lookup;exact zq1
@[simp] theorem zbB(old new:Value):Any P (Instr.keyThatStays old new):=by
 unfold Instr.keyThatStays;exact zq1
@[simp] theorem zdp(mapType:TypeId)(map key value:Value):Any P (Instr.mapUpdate mapType map key value):=by
 unfold Instr.mapUpdate;exact zq1
@[simp] theorem zeH(mapType:TypeId)(map key:Value):Any P (Instr.mapEntry mapType map key):=by
 unfold Instr.mapEntry;exact zq1
@[simp] theorem zde(_mapType:TypeId)(map stamp value:Value):Any P (Instr.entryStore _mapType map stamp value):=by
 unfold Instr.entryStore;exact zq1
@[simp] theorem zg0(xType:TypeId)(x:Value):Any P (Instr.range xType x):=by
 unfold Instr.range;exact zq1
@[simp] theorem zig(iter:Value)(isString:Bool)(_type:TypeId):Any P (Instr.next iter isString _type):=by
 unfold Instr.next;exact zq1
@[simp] theorem zg4(iter:Value):Any P (Instr.entry iter):=by
 unfold Instr.entry;exact zq1
@[simp] theorem zeW(l:Nat):Any P (Instr.getLoop l):=by
 unfold Instr.getLoop;exact zq1
@[simp] theorem zdr(fn:FuncId)(tmps:Array Value)(params:Array Tmp)(assign body:Code)(around:Option Nat):Any P (Instr.enterLoop fn tmps params assign body around):=by
 unfold Instr.enterLoop;exact zq1
@[simp] theorem kK(l:Nat):Any P (Instr.beginRound l):=by
 unfold Instr.beginRound;exact zq1
@[simp] theorem zeK(l:Nat)(jump:Option Code):Any P (Instr.endRound l jump):=by
 unfold Instr.endRound;exact zq1
@[simp] theorem ze0(l:Nat):Any P (Instr.endLoop l):=by
 unfold Instr.endLoop;exact zq1
@[simp] theorem zbC(l:Nat)(d:Deferred):Any P (Instr.deferInRound l d):=by
 unfold Instr.deferInRound;exact zq1
@[simp] theorem zbA(block:Nat):Any P (Instr.takeDeferred block):=by
 unfold Instr.takeDeferred;exact zq1
theorem zq4{p:Prop}(h:p:=by repeat' first|(with_reducible refine any_bind ?_ (fun _=>?_))|(with_reducible refine kr ?_)|(simp;done)|(with_reducible intro _)|exact any_stuck _|exact any_unsupported _|exact any_runtimePanic _|exact any_pure _|(refine any_bind ?_ (fun _=>?_))|(refine zb6 (fun _=>?_) (fun _=>?_))|(split)|(dsimp only)):p:=h
@[simp] theorem gX(t:Array TypeId)(ty:TypeId)(args:Array Value):Any P (Builtin.ssaWrapNilChk_ t ty args):=by
 unfold Builtin.ssaWrapNilChk_;rcases args with⟨_|⟨a,_|⟨b,_|⟨c,_|⟨d,l⟩⟩⟩⟩⟩;all_goals try exact any_stuck _
 all_goals (cases b<;>try exact any_stuck _)
 all_goals (cases c<;>try exact any_stuck _)
 all_goals (cases a<;>try exact any_stuck _)
 rename_i o;cases o;all_goals exact zq4
@[simp] theorem any_Place_get(t:TypeId)(v1:Place):Any P (Place.get t v1):=by
 unfold Place.get;exact zq1
@[simp] theorem zc1:∀(l:List FieldStep) (t:TypeId) (p:Place),Any P (follow l t p)
 |[],_,_=>any_pure _
 |s::l,t,p=>by
  unfold follow;have ih:=fun t p=>zc1 l t p;exact zq3
@[simp] theorem zh8(xt:TypeId)(x:Place)(pointerReceiver:Bool)(wrapper:Option String):Any P (receiverAt xt x pointerReceiver wrapper):=by
 unfold receiverAt;exact zq1
@[simp] theorem wj(t:TypeId)(v:Value)(path:Array FieldStep)(pointerReceiver:Bool):Any P (receiverVia t v path pointerReceiver):=by
 unfold receiverVia;exact zq1
@[simp] theorem wt:∀(d:Nat) (t:TypeId) (v:Value) (s:String),Any P (method d t v s)
 |0,_,_,_=>any_unsupported _
 |d+1,t,v,s=>by
  unfold method;have ih:=fun t v s=>wt d t v s;exact zq3
@[simp] theorem wu:∀(l:List FieldStep) (t:TypeId) (p:Option Value),Any P (followBlind l t p)
 |[],_,_=>any_pure _
 |s::l,t,p=>by
  unfold followBlind;have ih:=fun t p=>wu l t p;exact zq3
@[simp] theorem vA:∀(d:Nat) (t:TypeId) (v:Value) (s:String),Any P (nilAhead d t v s)
 |0,_,_,_=>any_pure _
 |d+1,t,v,s=>by
  unfold nilAhead;have ih:=fun t v s=>vA d t v s;exact zq3
@[simp] theorem zdc(x:Value)(xType asserted:TypeId)(commaOk:Bool):Any P (Instr.typeAssert x xType asserted commaOk):=by
 unfold Instr.typeAssert;exact zq1
@[simp] theorem zeZ(tuple:Value)(index:Nat):Any P (Instr.extract tuple index):=by
 unfold Instr.extract;exact zq1
@[simp] theorem zeG:Any P Instr.panicnil:=by
 unfold Instr.panicnil sys;simp only[Bind.bind,Sem.bind];unfold Any Safe;refine⟨⟨.stuck "strings expected",trivial,rfl⟩,fun r _=>?_⟩;dsimp only;cases r<;>first|exact any_stuck _|exact any_bind any_program fun _=>any_pure _
@[simp] theorem zg1(x:Value):Any P (Instr.panic x):=by
 unfold Instr.panic;exact zq1
@[simp] theorem zbI(a:Addr)(cells:Nat):Any P (Builtin.holdsCells a cells):=by
 unfold Builtin.holdsCells;exact zq1
@[simp] theorem zdi(size sLen n:Nat)(base:Option Addr)(x:Value):Any P (Builtin.mayShare size sLen n base x):=by
 unfold Builtin.mayShare;exact zq1
@[simp] theorem ze3(v1:Value):Any P (Builtin.lenOf v1):=by
 unfold Builtin.lenOf;exact zq1
@[simp] theorem zbJ(size n:Nat)(v1:Value):Any P (Builtin.firstCells size n v1):=by
 unfold Builtin.firstCells;exact zq1
@[simp] theorem zeM(t:Array TypeId)(ty:TypeId)(args:Array Value):Any P (Builtin.append_ t ty args):=by
 unfold Builtin.append_;dsimp only
 repeat' first|(with_reducible refine any_bind ?_ (fun _=>?_))|(with_reducible refine kr ?_)|(simp;done)|(refine zb6 (fun _=>?_) (fun _=>?_))|(split)|(with_reducible intro _)|(dsimp only)
@[simp] theorem any_Builtin_cap(argTypes:Array TypeId)(_type:TypeId)(args:Array Value):Any P (Builtin.cap_ argTypes _type args):=by
 unfold Builtin.cap_;exact zq1
@[simp] theorem ze5(argTypes:Array TypeId)(_type:TypeId)(args:Array Value):Any P (Builtin.clear_ argTypes _type args):=by
 unfold Builtin.clear_;exact zq1
@[simp] theorem ze4(t:Array TypeId)(ty:TypeId)(args:Array Value):Any P (Builtin.close_ t ty args):=by
 unfold Builtin.close_;rcases args with⟨_|⟨a,_|⟨b,l⟩⟩⟩;all_goals try exact any_stuck _
 all_goals (cases a<;>try exact any_stuck _)
 all_goals (rename_i v;cases v)
 all_goals exact zq4
@[simp] theorem any_Builtin_complex(t:Array TypeId)(ty:TypeId)(args:Array Value):Any P (Builtin.complex_ t ty args):=by
 unfold Builtin.complex_;rcases args with⟨_|⟨a,_|⟨b,_|⟨c,l⟩⟩⟩⟩;all_goals try exact any_stuck _
 all_goals (cases a<;>try exact any_stuck _)
 all_goals (cases b<;>try exact any_stuck _)
 all_goals exact zq4
@[simp] theorem any_Builtin_copy(argTypes:Array TypeId)(_type:TypeId)(args:Array Value):Any P (Builtin.copy_ argTypes _type args):=by
 unfold Builtin.copy_;exact zq1
@[simp] theorem zeL(argTypes:Array TypeId)(_type:TypeId)(args:Array Value):Any P (Builtin.delete_ argTypes _type args):=by
 unfold Builtin.delete_;exact zq1
@[simp] theorem zgG(t:Array TypeId)(ty:TypeId)(args:Array Value):Any P (Builtin.imag_ t ty args):=by
 unfold Builtin.imag_;rcases args with⟨_|⟨a,_|⟨b,l⟩⟩⟩;all_goals try exact any_stuck _
 all_goals (cases a<;>try exact any_stuck _)
 all_goals exact zq4
@[simp] theorem any_Builtin_len(argTypes:Array TypeId)(_type:TypeId)(args:Array Value):Any P (Builtin.len_ argTypes _type args):=by
 unfold Builtin.len_;exact zq1
@[simp] theorem zgF(v1:Value)(v2:Value):Any P (Builtin.max2 v1 v2):=by
 unfold Builtin.max2;exact zq1
@[simp] theorem zg8(_argTypes:Array TypeId)(_type:TypeId)(args:Array Value):Any P (Builtin.max_ _argTypes _type args):=by
 unfold Builtin.max_;exact zq1
@[simp] theorem zgE(v1:Value)(v2:Value):Any P (Builtin.min2 v1 v2):=by
 unfold Builtin.min2;exact zq1
@[simp] theorem zg7(_argTypes:Array TypeId)(_type:TypeId)(args:Array Value):Any P (Builtin.min_ _argTypes _type args):=by
 unfold Builtin.min_;exact zq1
@[simp] theorem zgD(t:Array TypeId)(ty:TypeId)(args:Array Value):Any P (Builtin.real_ t ty args):=by
 unfold Builtin.real_;rcases args with⟨_|⟨a,_|⟨b,l⟩⟩⟩;all_goals try exact any_stuck _
 all_goals (cases a<;>try exact any_stuck _)
 all_goals exact zq4
@[simp] theorem any_Builtin_unsafeAdd(t:Array TypeId)(ty:TypeId)(args:Array Value):Any P (Builtin.unsafeAdd_ t ty args):=by
 unfold Builtin.unsafeAdd_;rcases args with⟨_|⟨a,_|⟨b,_|⟨c,l⟩⟩⟩⟩;all_goals try exact any_stuck _
 all_goals (cases a<;>try exact any_stuck _)
 all_goals (rename_i v;cases v)
 all_goals exact zq4
@[simp] theorem any_Builtin_unsafeSlice(t:Array TypeId)(ty:TypeId)(args:Array Value):Any P (Builtin.unsafeSlice_ t ty args):=by
 unfold Builtin.unsafeSlice_;rcases args with⟨_|⟨a,_|⟨b,_|⟨c,l⟩⟩⟩⟩;all_goals try exact any_stuck _
 all_goals (cases a<;>try exact any_stuck _)
 all_goals (rename_i v;cases v)
 all_goals exact zq4
@[simp] theorem any_Builtin_unsafeSliceData(t:Array TypeId)(ty:TypeId)(args:Array Value):Any P (Builtin.unsafeSliceData_ t ty args):=by
 unfold Builtin.unsafeSliceData_;rcases args with⟨_|⟨a,_|⟨b,l⟩⟩⟩;all_goals try exact any_stuck _
 all_goals (cases a<;>try exact any_stuck _)
 all_goals (rename_i v n c;cases v)
 all_goals exact zq4
@[simp] theorem any_Builtin_unsafeString(t:Array TypeId)(ty:TypeId)(args:Array Value):Any P (Builtin.unsafeString_ t ty args):=by
 unfold Builtin.unsafeString_;rcases args with⟨_|⟨a,_|⟨b,_|⟨c,l⟩⟩⟩⟩;all_goals try exact any_stuck _
 all_goals (cases a<;>try exact any_stuck _)
 all_goals (rename_i v;cases v)
 all_goals exact zq4
@[simp] theorem any_Builtin_unsafeStringData(t:Array TypeId)(ty:TypeId)(args:Array Value):Any P (Builtin.unsafeStringData_ t ty args):=by
 unfold Builtin.unsafeStringData_;rcases args with⟨_|⟨a,_|⟨b,l⟩⟩⟩;all_goals try exact any_stuck _
 all_goals (cases a<;>try exact any_stuck _)
 all_goals exact zq4
@[simp] theorem any_Conv_seenAt(a:Addr):Any P (Conv.seenAt a):=by
 unfold Conv.seenAt;exact zq1
@[simp] theorem zbD(src dst:TypeId)(x:Value):Any P (Conv.unsafePointer src dst x):=by
 unfold Conv.unsafePointer;exact zq1
@[simp] theorem zdh(t:TypeId)(v:Value):Any P (Builtin.printOne t v):=by
 unfold Builtin.printOne;exact zq1
@[simp] theorem vD(ln:Bool)(consts:Array Bool)(argTypes:Array TypeId)(args:Array Value):Any P (Builtin.pieces ln consts argTypes args):=by
 unfold Builtin.pieces;exact zq1
end Go.Bsd
