/- A part. -/
import Derived.Test.YtonmcakdofbjiaaGreatDoorM7
set_option linter.all false
set_option maxRecDepth 100000
set_option maxHeartbeats 8000000
namespace Go.Bsd
open Go.Conc
def grB:Nat->Value->Bool
 |_, .bool _|_, .int _ _|_, .string _|_, .pointer none|_, .slice none _ _|_, .chan none|_, .nilFunc|_, .nilIface=>true
 |n+1, .agg cs=>cs.toList.all (grB n)
 |n+1, .tuple cs=>cs.toList.all (grB n)
 |n+1, .iface _ v=>grB n v
 |_,_=>false
theorem grB_ok:∀(n:Nat) (v:Value),grB n v=true->Gr v:=by
 intro n;induction n with
 |zero=>
  intro v h F ρ;unfold grB at h
  split at h<;>first
   |exact .bool _
   |exact .int _ _
   |exact .string _
   |exact .pointer .none
   |exact .slice _ _ .none
   |exact .chan .none
   |exact .nilFunc
   |exact .nilIface
   |(cases h)
   |(rename_i e _ _;cases e)
   |skip
  all_goals (rename_i e;first|cases e|skip)
  all_goals simp_all
 |succ n ih=>
  intro v h F ρ;have arr:∀cs:Array Value,cs.toList.all (grB n)=true->VsRel F ρ cs cs:=fun cs hc=>⟨rfl,fun i v v' h1 h2=>by
   rw[h1] at h2;cases h2;refine ih v ?_ F ρ;rw[List.all_eq_true] at hc;exact hc v (Array.mem_toList_iff.2 (Array.mem_of_getElem? h1))⟩
  cases v with
  |bool b=>exact .bool _
  |int k n=>exact .int _ _
  |string s=>exact .string _
  |pointer a=>
   cases a with
   |none=>exact .pointer .none
   |some a=>simp[grB] at h
  |slice a n m=>
   cases a with
   |none=>exact .slice _ _ .none
   |some a=>simp[grB] at h
  |chan a=>
   cases a with
   |none=>exact .chan .none
   |some a=>simp[grB] at h
  |nilFunc=>exact .nilFunc
  |nilIface=>exact .nilIface
  |agg cs=>exact .aggs (arr cs (by simpa [grB] using h))
  |tuple cs=>exact .tuples (arr cs (by simpa [grB] using h))
  |iface t v=>exact .iface t (ih v (by simpa [grB] using h) F ρ)
  |_=>simp[grB] at h
section
variable (P:Program) (fl gl:List Nat) (db:Bool)
def inF(f:FuncId):Prop:=f∈fl
def inG(g:Nat):Prop:=g∈gl
def zgrB(t:TypeId):Bool:=match P.info? t with
 |some i=>(match i.zero with|some v=>grB 12 v|none=>true)
 |none=>true
def okAB:Operand->Bool
 | .tmp _=>true
 | .const v=>grB 12 v
 | .func f=>fl.contains f
 | .global g=>gl.contains g
def vk(ts:Array TypeId):Bool:=
 (match ts[0]? with|some s=>(match P.underlying s with|some (.slice e)=>zgrB P e|_=>true)|none=>true)&&
  match ts[1]? with|some x=>(match P.underlying x with|some (.int _)=>false|_=>true)|none=>true
def vJ(c:Call):Bool:=
 c.args.toList.all (okAB fl gl)&&match c.callee with
 | .value f=>okAB fl gl f
 | .builtin .len=>okLen P c.argTypes
 | .builtin .append=>vk P c.argTypes
 | .builtin .recover=>true
 | .builtin .copy=>true
 | .builtin .unsafeString=>true
 |_=>false
def zan(s:TypeId)(i:Nat):Bool:=match P.underlying s with
 |some (.struct fs)=>(match fs[i]? with|some f=>(match P.info? f.type with|some ti=>ti.size !=0|none=>true)|none=>true)
 |_=>true
def okOpB:Op->Bool
 | .move x| .assign x=>okAB fl gl x
 | .pick c a b=>okAB fl gl c&&okAB fl gl a&&okAB fl gl b
 | .alloc e=>zgrB P e
 | .box _ x=>okAB fl gl x
 | .build t ps=>zgrB P t&&ps.toList.all fun x=>okAB fl gl x.2
 | .buildSlice t _ ps=>(match P.underlying t with|some (.slice e)=>zgrB P e|_=>true)&&ps.toList.all fun x=>okAB fl gl x.2
 | .load _ a=>okAB fl gl a
 | .store _ a x=>okAB fl gl a&&okAB fl gl x
 | .binOp _ _ x y _=>okAB fl gl x&&okAB fl gl y
 | .unOp _ _ x=>okAB fl gl x
 | .convert s d x=>uO P s d&&okAB fl gl x
 | .makeInterface _ x=>okAB fl gl x
 | .makeFunc (.func f) fs cs=>fl.contains f&&fs.toList.all (okAB fl gl)&&cs.toList.all (okAB fl gl)
 | .makeSlice t l c=>(match P.underlying t with|some (.slice e)=>zgrB P e|_=>true)&&okAB fl gl l&&okAB fl gl c
 | .slice t x lo hi mx=>vI P t&&okAB fl gl x&&lo.all (okAB fl gl)&&hi.all (okAB fl gl)&&mx.all (okAB fl gl)
 | .fieldAddr s x i=>zan P s i&&okAB fl gl x
 | .field _ x _=>okAB fl gl x
 | .indexAddr _ x i=>okAB fl gl x&&okAB fl gl i
 | .index _ x i=>okAB fl gl x&&okAB fl gl i
 | .typeAssert x _ t ok=>ok&&(zgrB P t&&((match P.underlying t with|some (.interface _)=>true|_=>false) || !vL.contains t))&&okAB fl gl x
 | .extract x _=>okAB fl gl x
 | .call c=>vJ P fl gl c
 | .defer c=>vJ P fl gl c
 | .panic x=>okAB fl gl x
 | .send c x=>db&&okAB fl gl c&&okAB fl gl x
 | .recv t c _=>!db&&(match P.underlying t with|some (.chan _ e)=>zgrB P e|_=>true)&&okAB fl gl c
 |_=>false
def xl:Code->Bool
 | .skip| .exit _| .label _| .goto _| .ret| .refuse _=>true
 | .region _ ops _=>ops.toList.all fun o=>okOpB P fl gl db o.op
 | .seq a b=>xl a&&xl b
 | .cond c a b=>okAB fl gl c&&xl a&&xl b
 | .block _ b| .loop b| .scope b=>xl b
 | .rangeFunc .. =>false
end
section
variable {P:Program} {fl gl:List Nat} {db:Bool}
theorem zgrB_ok{t:TypeId}(h:zgrB P t=true):ZGr P t:=by
 intro i v h1 h2;unfold zgrB at h;rw[h1] at h;simp only[h2] at h;exact grB_ok _ _ h
theorem okAB_ok{x:Operand}(h:okAB fl gl x=true):OkA (inF fl) (inG gl) x:=by
 cases x with
 |tmp t=>trivial
 |const v=>exact grB_ok _ _ h
 |func f=>exact List.contains_iff_mem.1 h
 |global g=>exact List.contains_iff_mem.1 h
theorem wX{xs:Array Operand}(h:xs.toList.all (okAB fl gl)=true):∀x∈xs,OkA (inF fl) (inG gl) x:=fun x hx=>okAB_ok ((List.all_eq_true.1 h) x (Array.mem_toList_iff.2 hx))
theorem all_pairs{xs:Array (Nat×Operand)}(h:(xs.toList.all fun x=>okAB fl gl x.2)=true):∀x∈xs,OkA (inF fl) (inG gl) x.2:=fun x hx=>okAB_ok ((List.all_eq_true.1 h) x (Array.mem_toList_iff.2 hx))
theorem all_opt{x:Option Operand}(h:x.all (okAB fl gl)=true):∀y∈x,OkA (inF fl) (inG gl) y:=by
 intro y hy;have:x=some y:=hy
 subst this;exact okAB_ok h
theorem okAppendB_ok{ts:Array TypeId}(h:vk P ts=true):kz P ts:=by
 unfold vk at h;rw[Bool.and_eq_true] at h;refine⟨fun s e h1 h2=>?_,fun x k h1 h2=>?_⟩
 ·have:=h.1
  rw[h1] at this;simp only[h2] at this;exact zgrB_ok this
 ·have:=h.2
  rw[h1] at this;simp only[h2] at this;cases this
theorem okCallB_ok{c:Call}(h:vJ P fl gl c=true):wA P (inF fl) (inG gl) c:=by
 unfold vJ at h;rw[Bool.and_eq_true] at h;refine⟨wX h.1,?_⟩;have:=h.2
 split at this<;>rename_i e<;>simp only[e]
 ·exact okAB_ok this
 ·exact this
 ·exact okAppendB_ok this
 ·cases this
theorem okOpB_ok{o:Op}(h:okOpB P fl gl db o=true):OkOp P (inF fl) (inG gl) (fun b=>b=db) o:=by
 cases o<;>simp only[okOpB,Bool.and_eq_true] at h<;>unfold OkOp<;>first
  |exact okAB_ok h
  |exact⟨okAB_ok h.1.1,okAB_ok h.1.2,okAB_ok h.2⟩
  |exact zgrB_ok h
  |exact⟨zgrB_ok h.1,all_pairs h.2⟩
  |exact⟨okAB_ok h.1,okAB_ok h.2⟩
  |exact⟨h.1,okAB_ok h.2⟩
  |exact⟨h.1.1,zgrB_ok h.1.2,okAB_ok h.2⟩
  |exact⟨h.1.1,⟨zgrB_ok h.1.2.1,by
   have h5:=h.1.2.2;rw[Bool.or_eq_true] at h5;rcases h5 with h5|h5
   ·left;split at h5<;>first|exact⟨_,‹_›⟩|cases h5
   ·right;simpa using h5⟩,okAB_ok h.2⟩
  |exact okCallB_ok h
  |exact⟨h.1.1.1.1,okAB_ok h.1.1.1.2,all_opt h.1.1.2,all_opt h.1.2,all_opt h.2⟩
  |exact⟨h.1.1.symm,okAB_ok h.1.2,okAB_ok h.2⟩
  |exact absurd h Bool.false_ne_true
  |skip
 case buildSlice=>exact⟨fun e he=>by rw[he] at h;exact zgrB_ok h.1,all_pairs h.2⟩
 case makeSlice t l c=>exact⟨fun e he=>by have h1:=h.1.1;rw[he] at h1;exact zgrB_ok h1,okAB_ok h.1.2,okAB_ok h.2⟩
 case makeFunc fn fs cs=>
  cases fn with
  |func f=>
   simp only[Bool.and_eq_true] at h;exact⟨List.contains_iff_mem.1 h.1.1,wX h.1.2,wX h.2⟩
  |_=>exact absurd h Bool.false_ne_true
 case fieldAddr s x i=>
  refine⟨fun fs f ti h1 h2 h3=>?_,okAB_ok h.2⟩;have h4:=h.1;unfold zan at h4;rw[h1] at h4;simp only[h2,h3] at h4;simpa using h4
 case recv t c ok=>
  refine⟨?_,fun d e he=>?_,okAB_ok h.2⟩
  ·have:=h.1.1
   show false=db;revert this;cases db<;>simp
  ·have:=h.1.2
   rw[he] at this;exact zgrB_ok this
theorem okCodeB_ok:∀{c:Code},xl P fl gl db c=true->xA P (inF fl) (inG gl) (fun b=>b=db) c
 | .skip,_| .exit _,_| .label _,_| .goto _,_| .ret,_| .refuse _,_=>trivial
 | .region _ ops _,h=>fun o ho=>okOpB_ok ((List.all_eq_true.1 h) o (Array.mem_toList_iff.2 ho))
 | .seq a b,h=>by
   simp only[xl,Bool.and_eq_true] at h;exact⟨okCodeB_ok h.1,okCodeB_ok h.2⟩
 | .cond c a b,h=>by
   simp only[xl,Bool.and_eq_true] at h;exact⟨okAB_ok h.1.1,okCodeB_ok h.1.2,okCodeB_ok h.2⟩
 | .block _ b,h=>okCodeB_ok (c:=b) h
 | .loop b,h=>okCodeB_ok (c:=b) h
 | .scope b,h=>okCodeB_ok (c:=b) h
 | .rangeFunc ..,h=>by cases h
def okFnB(P:Program)(fl gl:List Nat)(db:Bool)(fn:Func):Bool:=!(fn.name== "runtime.NumGoroutine")&&match fn.body with|some c=>xl P fl gl db c|none=>false
theorem zbR(h:∀f∈fl,∃fn,P.funcs[f]? =some fn/\okFnB P fl gl db fn=true):SimP P (inF fl) (inG gl) (fun b=>b=db):=by
 refine⟨fun f hf=>?_⟩;obtain⟨fn,h1,h2⟩:=h f hf
 unfold okFnB at h2;rw[Bool.and_eq_true] at h2;cases hb:fn.body with
 |none=>rw[hb] at h2;exact absurd h2.2 (by simp)
 |some c=>
  rw[hb] at h2;exact⟨fn,c,h1,by simpa using h2.1,hb,okCodeB_ok h2.2⟩
end
end Go.Bsd
