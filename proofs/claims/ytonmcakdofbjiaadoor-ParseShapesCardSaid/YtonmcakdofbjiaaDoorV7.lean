/-
  The parts: base Sim1 base Sim2
-/
import Derived.Test.YtonmcakdofbjiaaDoorV6
import Derived.Laws.Sem
set_option linter.unusedVariables false
set_option linter.unusedSimpArgs false
set_option linter.unusedSectionVars false
set_option linter.unnecessarySimpa false
set_option maxRecDepth 100000
set_option maxHeartbeats 8000000
namespace Go.Bsd
open Go.Conc
abbrev Rn := Nat -> Nat -> Prop
def Ext (ρ ρ' : Rn) : Prop := ∀ x y, ρ x y -> ρ' x y
structure One (N : Nat) (ρ : Rn) : Prop where
 inj : ∀ x x' y y', ρ x x' -> ρ y y' -> (x = y ↔ x' = y')
 low : ∀ x y, ρ x y -> (x < N ↔ y < N)
theorem Ext.refl (ρ : Rn) : Ext ρ ρ := fun _ _ h => h
theorem Ext.trans {a b c : Rn} (h : Ext a b) (k : Ext b c) : Ext a c := fun _ _ x => k _ _ (h _ _ x)
structure ARel (ρ : Rn) (a a' : Addr) : Prop where
 block : ρ a.block a'.block
 off : a.off = a'.off
 spot : a.spot = a'.spot
theorem ARel.mono {ρ ρ' : Rn} (h : Ext ρ ρ') {a a' : Addr} (x : ARel ρ a a') : ARel ρ' a a' := ⟨h _ _ x.block, x.off, x.spot⟩
theorem ARel.add {ρ : Rn} {a a' : Addr} (x : ARel ρ a a') (n : Nat) : ARel ρ (a.add n) (a'.add n) := by
 unfold Addr.add
 split
 · exact x
 · exact ⟨x.block, by simp [x.off], rfl⟩
inductive OpRel {α : Type} (R : α -> α -> Prop) : Option α -> Option α -> Prop
 | none : OpRel R none none
 | some {a b : α} (h : R a b) : OpRel R (some a) (some b)
theorem OpRel.mono {α : Type} {R R' : α -> α -> Prop} (h : ∀ a b, R a b -> R' a b) {a b : Option α} (x : OpRel R a b) : OpRel R' a b := by
 cases x with
 | none => exact .none
 | some y => exact .some (h _ _ y)
def farTs : List TypeId := [123]
inductive VRel (F : FuncId -> Prop) (ρ : Rn) : Value -> Value -> Prop
 | bool (b : Bool) : VRel F ρ (.bool b) (.bool b)
 | int (k : IntKind) (n : Int) : VRel F ρ (.int k n) (.int k n)
 | string (s : ByteArray) : VRel F ρ (.string s) (.string s)
 | pointer {a a' : Option Addr} (h : OpRel (ARel ρ) a a') : VRel F ρ (.pointer a) (.pointer a')
 | slice {a a' : Option Addr} (n m : Nat) (h : OpRel (ARel ρ) a a') : VRel F ρ (.slice a n m) (.slice a' n m)
 | chan {a a' : Option Nat} (h : OpRel ρ a a') : VRel F ρ (.chan a) (.chan a')
 | func {f : FuncId} {fs fs' cs cs' : Array Value} (hf : F f) (n1 : fs.size = fs'.size) (h1 : ∀ (i : Nat) (v v' : Value), fs[i]? = some v -> fs'[i]? = some v' -> VRel F ρ v v')
     (n2 : cs.size = cs'.size) (h2 : ∀ (i : Nat) (v v' : Value), cs[i]? = some v -> cs'[i]? = some v' -> VRel F ρ v v') : VRel F ρ (.func (.func f) fs cs) (.func (.func f) fs' cs')
 | nilFunc : VRel F ρ .nilFunc .nilFunc
 | iface (t : TypeId) {v v' : Value} (h : VRel F ρ v v') : VRel F ρ (.iface t v) (.iface t v')
 | nilIface : VRel F ρ .nilIface .nilIface
 | agg {cs cs' : Array Value} (n : cs.size = cs'.size) (h : ∀ (i : Nat) (v v' : Value), cs[i]? = some v -> cs'[i]? = some v' -> VRel F ρ v v') : VRel F ρ (.agg cs) (.agg cs')
 | tuple {cs cs' : Array Value} (n : cs.size = cs'.size) (h : ∀ (i : Nat) (v v' : Value), cs[i]? = some v -> cs'[i]? = some v' -> VRel F ρ v v') : VRel F ρ (.tuple cs) (.tuple cs')
 | far (t : TypeId) (b o : Nat) (ht : farTs.contains t = true) : VRel F ρ (.iface t (.tuple #[.complex .f64 b o])) (.iface t (.pointer (some ⟨b, o, none⟩)))
structure VsRel (F : FuncId -> Prop) (ρ : Rn) (cs cs' : Array Value) : Prop where
 size : cs.size = cs'.size
 all : ∀ (i : Nat) (v v' : Value), cs[i]? = some v -> cs'[i]? = some v' -> VRel F ρ v v'
section
variable {F : FuncId -> Prop} {ρ ρ' : Rn}
theorem VRel.mono (h : Ext ρ ρ') {v v' : Value} (x : VRel F ρ v v') : VRel F ρ' v v' := by
 induction x with
 | bool b => exact .bool b
 | int k n => exact .int k n
 | string s => exact .string s
 | pointer x => exact .pointer (x.mono fun _ _ => ARel.mono h)
 | slice n m x => exact .slice n m (x.mono fun _ _ => ARel.mono h)
 | chan x => exact .chan (x.mono h)
 | func hf n1 _ n2 _ i1 i2 => exact .func hf n1 i1 n2 i2
 | nilFunc => exact .nilFunc
 | iface t _ i => exact .iface t i
 | far t b o ht => exact .far t b o ht
 | nilIface => exact .nilIface
 | agg n _ i => exact .agg n i
 | tuple n _ i => exact .tuple n i
theorem VsRel.mono (h : Ext ρ ρ') {v v' : Array Value} (x : VsRel F ρ v v') : VsRel F ρ' v v' := ⟨x.size, fun i a b h1 h2 => (x.all i a b h1 h2).mono h⟩
theorem VsRel.get {cs cs' : Array Value} (h : VsRel F ρ cs cs') (i : Nat) : OpRel (VRel F ρ) cs[i]? cs'[i]? := by
 by_cases hi : i < cs.size
 · have hi' : i < cs'.size := h.size ▸ hi
   rw [Array.getElem?_eq_getElem hi, Array.getElem?_eq_getElem hi']
   exact .some (h.all i _ _ (Array.getElem?_eq_getElem hi) (Array.getElem?_eq_getElem hi'))
 · have hi' : ¬ i < cs'.size := h.size ▸ hi
   rw [Array.getElem?_eq_none (by omega), Array.getElem?_eq_none (by omega)]
   exact .none
theorem vsRel_of {cs cs' : Array Value} (h : ∀ i : Nat, OpRel (VRel F ρ) cs[i]? cs'[i]?) : VsRel F ρ cs cs' := by
 refine ⟨?_, fun i v v' h1 h2 => by have := h i; rw [h1, h2] at this; cases this; assumption⟩
 rcases Nat.lt_trichotomy cs.size cs'.size with hlt | e | hlt
 · have := h cs.size
   rw [Array.getElem?_eq_none (Nat.le_refl _), Array.getElem?_eq_getElem hlt] at this
   cases this
 · exact e
 · have := h cs'.size
   rw [Array.getElem?_eq_none (Nat.le_refl _), Array.getElem?_eq_getElem hlt] at this
   cases this
theorem VsRel.getD {cs cs' : Array Value} (h : VsRel F ρ cs cs') (i : Nat) {d d' : Value} (hd : VRel F ρ d d') : VRel F ρ (cs.getD i d) (cs'.getD i d') := by
 rw [Array.getD_eq_getD_getElem?, Array.getD_eq_getD_getElem?]
 have := h.get i
 revert this
 generalize cs[i]? = x, cs'[i]? = y
 intro h
 cases h with
 | none => exact hd
 | some h => exact h
theorem VsRel.empty : VsRel F ρ #[] #[] := ⟨rfl, fun i v v' h => by simp at h⟩
theorem VsRel.push {cs cs' : Array Value} (h : VsRel F ρ cs cs') {v v' : Value} (hv : VRel F ρ v v') : VsRel F ρ (cs.push v) (cs'.push v') := vsRel_of fun i => by
 rw [Array.getElem?_push, Array.getElem?_push, h.size]
 split
 · exact .some hv
 · exact h.get i
theorem VsRel.append {a a' b b' : Array Value} (h : VsRel F ρ a a') (k : VsRel F ρ b b') : VsRel F ρ (a ++ b) (a' ++ b') := vsRel_of fun i => by
 rw [Array.getElem?_append, Array.getElem?_append, h.size]
 split
 · exact h.get i
 · exact k.get _
theorem VsRel.set {a a' : Array Value} (h : VsRel F ρ a a') (j : Nat) {v v' : Value} (hv : VRel F ρ v v') : VsRel F ρ (a.setIfInBounds j v) (a'.setIfInBounds j v') := vsRel_of fun i => by
 rw [Array.getElem?_setIfInBounds, Array.getElem?_setIfInBounds, h.size]
 split
 · split
   · exact .some hv
   · exact .none
 · exact h.get i
theorem VsRel.extract {a a' : Array Value} (h : VsRel F ρ a a') (i j : Nat) : VsRel F ρ (a.extract i j) (a'.extract i j) := vsRel_of fun k => by
 rw [Array.getElem?_extract, Array.getElem?_extract, h.size]
 split
 · exact h.get _
 · exact .none
theorem VsRel.replicate {v v' : Value} (n : Nat) (hv : VRel F ρ v v') : VsRel F ρ (Array.replicate n v) (Array.replicate n v') := vsRel_of fun i => by
 rw [Array.getElem?_replicate, Array.getElem?_replicate]
 split
 · exact .some hv
 · exact .none
theorem VsRel.single {v v' : Value} (hv : VRel F ρ v v') : VsRel F ρ #[v] #[v'] := VsRel.empty.push hv
theorem VRel.aggs {cs cs' : Array Value} (h : VsRel F ρ cs cs') : VRel F ρ (.agg cs) (.agg cs') := .agg h.size h.all
theorem VRel.tuples {cs cs' : Array Value} (h : VsRel F ρ cs cs') : VRel F ρ (.tuple cs) (.tuple cs') := .tuple h.size h.all
theorem VRel.undefs : VRel F ρ undef undef := .tuples .empty
theorem VRel.cells {v v' : Value} (h : VRel F ρ v v') : VsRel F ρ v.cells v'.cells := by
 cases h with
 | agg n h => exact ⟨n, h⟩
 | bool b => exact .single (.bool b)
 | int k n => exact .single (.int k n)
 | string s => exact .single (.string s)
 | pointer x => exact .single (.pointer x)
 | slice n m x => exact .single (.slice n m x)
 | chan x => exact .single (.chan x)
 | func hf n1 h1 n2 h2 => exact .single (.func hf n1 h1 n2 h2)
 | nilFunc => exact .single .nilFunc
 | iface t h => exact .single (.iface t h)
 | far t b o ht => exact .single (.far t b o ht)
 | nilIface => exact .single .nilIface
 | tuple n h => exact .single (.tuple n h)
end
def Gr (v : Value) : Prop := ∀ F ρ, VRel F ρ v v
theorem vsRel_gr {F : FuncId -> Prop} {ρ : Rn} {cs : Array Value} (h : ∀ v ∈ cs, Gr v) : VsRel F ρ cs cs := ⟨rfl, fun i v v' h1 h2 => by
 rw [h1] at h2; cases h2; exact h v (Array.mem_of_getElem? h1) _ _⟩
inductive ObRel (F : FuncId -> Prop) (ρ : Rn) : Obj -> Obj -> Prop
 | cells {c c' : Array Value} (e : TypeId) (f : Nat × Nat) (h : VsRel F ρ c c') : ObRel F ρ (.cells c e f) (.cells c' e f)
 | chan (a a' : Nat) (b b' : Array Value) (x x' : Bool) (n n' m m' : Nat) (t t' : Bool) : ObRel F ρ (.chan a b x n m t) (.chan a' b' x' n' m' t')
 | number {a a' : Addr} (l : Bool) (h : ARel ρ a a') : ObRel F ρ (.number a l) (.number a' l)
theorem ObRel.mono {F : FuncId -> Prop} {ρ ρ' : Rn} (h : Ext ρ ρ') {o o' : Obj} (x : ObRel F ρ o o') : ObRel F ρ' o o' := by
 cases x with
 | cells e f x => exact .cells e f (x.mono h)
 | chan => exact .chan ..
 | number l x => exact .number l (x.mono h)
def WRel (F : FuncId -> Prop) (ρ : Rn) (w w' : World) : Prop := ∀ r r', ρ r r' -> ∃ o o', w.heap[r]? = some o /\ w'.heap[r']? = some o' /\ ObRel F ρ o o'
structure Tied (N : Nat) (w w' : World) : Prop where
 tape : ∀ i q, w.tape (w.drawn + i) q = w'.tape (w'.drawn + i) q
 os : w.os = w'.os
 size : N <= w.heap.size
 size' : N <= w'.heap.size
def isChan (o : Obj) : Prop := o.isChan = true
structure Moved (N : Nat) (F : FuncId -> Prop) (ρ : Rn) (w w' : World) (ρ₁ : Rn) (w₁ w₁' : World) : Prop where
 ext : Ext ρ ρ₁
 one : One N ρ₁
 rel : WRel F ρ₁ w₁ w₁'
 tape : w₁.tape = w.tape
 tape' : w₁'.tape = w'.tape
 drawn : ∃ n, w₁.drawn = w.drawn + n /\ w₁'.drawn = w'.drawn + n
 grow : w.heap.size <= w₁.heap.size
 grow' : w'.heap.size <= w₁'.heap.size
 new : ∀ x y, ρ₁ x y -> ρ x y \/ (w.heap.size <= x /\ w'.heap.size <= y)
 keep : ∀ x : Nat, x < w.heap.size -> (∀ y, ¬ ρ x y) -> w₁.heap[x]? = w.heap[x]?
 keep' : ∀ y : Nat, y < w'.heap.size -> (∀ x, ¬ ρ x y) -> w₁'.heap[y]? = w'.heap[y]?
 chan : ∀ (x : Nat) (o : Obj), w.heap[x]? = some o -> isChan o -> w₁.heap[x]? = some o
 chan' : ∀ (y : Nat) (o : Obj), w'.heap[y]? = some o -> isChan o -> w₁'.heap[y]? = some o
 only : ∀ (x : Nat) (o : Obj), w₁.heap[x]? = some o -> isChan o -> w.heap[x]? = some o
 only' : ∀ (x : Nat) (o : Obj), w₁'.heap[x]? = some o -> isChan o -> w'.heap[x]? = some o
 os : w₁.os = w.os
 os' : w₁'.os = w'.os
 output : w₁.output = w.output
 output' : w₁'.output = w'.output
section
variable {N : Nat} {F : FuncId -> Prop} {ρ ρ₁ ρ₂ : Rn} {w w' w₁ w₁' w₂ w₂' : World}
theorem Moved.refl (h1 : One N ρ) (h2 : WRel F ρ w w') : Moved N F ρ w w' ρ w w' :=
 ⟨Ext.refl _, h1, h2, rfl, rfl, ⟨0, rfl, rfl⟩, Nat.le_refl _, Nat.le_refl _, fun _ _ h => .inl h, fun _ _ _ => rfl, fun _ _ _ => rfl, fun _ _ h _ => h, fun _ _ h _ => h, fun _ _ h _ => h, fun _ _ h _ => h, rfl, rfl, rfl, rfl⟩
theorem Moved.trans (a : Moved N F ρ w w' ρ₁ w₁ w₁') (b : Moved N F ρ₁ w₁ w₁' ρ₂ w₂ w₂') : Moved N F ρ w w' ρ₂ w₂ w₂' := by
 refine ⟨a.ext.trans b.ext, b.one, b.rel, b.tape.trans a.tape, b.tape'.trans a.tape', ?_, Nat.le_trans a.grow b.grow, Nat.le_trans a.grow' b.grow', fun x y h => ?_, fun x hx hn => ?_, fun y hy hn => ?_,
   fun x o h1 h2 => b.chan x o (a.chan x o h1 h2) h2, fun x o h1 h2 => b.chan' x o (a.chan' x o h1 h2) h2, fun x o h1 h2 => a.only x o (b.only x o h1 h2) h2, fun x o h1 h2 => a.only' x o (b.only' x o h1 h2) h2, b.os.trans a.os, b.os'.trans a.os', b.output.trans a.output, b.output'.trans a.output'⟩
 · obtain ⟨n, h1, h2⟩ := a.drawn
   obtain ⟨m, h3, h4⟩ := b.drawn
   exact ⟨n + m, by omega, by omega⟩
 · rcases b.new x y h with h | ⟨h1, h2⟩
   · exact a.new x y h
   · exact .inr ⟨Nat.le_trans a.grow h1, Nat.le_trans a.grow' h2⟩
 · rw [b.keep x (Nat.lt_of_lt_of_le hx a.grow) (fun y h => (a.new x y h).elim (hn y) (fun h => by omega)), a.keep x hx hn]
 · rw [b.keep' y (Nat.lt_of_lt_of_le hy a.grow') (fun x h => (a.new x y h).elim (hn x) (fun h => by omega)), a.keep' y hy hn]
theorem Moved.tied (a : Moved N F ρ w w' ρ₁ w₁ w₁') (h : Tied N w w') : Tied N w₁ w₁' := by
 obtain ⟨n, h1, h2⟩ := a.drawn
 refine ⟨fun i q => ?_, by rw [a.os, a.os', h.os], Nat.le_trans h.size a.grow, Nat.le_trans h.size' a.grow'⟩
 rw [a.tape, a.tape', h1, h2, Nat.add_assoc, Nat.add_assoc]
 exact h.tape (n + i) q
theorem lt_of_some {o : Obj} {h : Array Obj} {r : Nat} (x : h[r]? = some o) : r < h.size := (Array.getElem?_eq_some_iff.1 x).1
theorem WRel.lt (h : WRel F ρ w w') {x y : Nat} (k : ρ x y) : x < w.heap.size /\ y < w'.heap.size := by
 obtain ⟨o, o', h1, h2, _⟩ := h x y k
 exact ⟨lt_of_some h1, lt_of_some h2⟩
def addR (ρ : Rn) (a b : Nat) : Rn := fun x y => ρ x y \/ (x = a /\ y = b)
theorem ext_add (ρ : Rn) (a b : Nat) : Ext ρ (addR ρ a b) := fun _ _ h => .inl h
theorem moved_new (h1 : One N ρ) (h2 : WRel F ρ w w') (hn : N <= w.heap.size) (hn' : N <= w'.heap.size) {o o' : Obj} (ho : ObRel F ρ o o') (hnc : ¬ isChan o) :
   Moved N F ρ w w' (addR ρ w.heap.size w'.heap.size) { w with heap := w.heap.push o } { w' with heap := w'.heap.push o' } := by
 have hnc' : ¬ isChan o' := by
   intro h
   apply hnc
   cases ho <;> first | exact h | rfl
 refine ⟨ext_add _ _ _, ?_, ?_, rfl, rfl, ⟨0, rfl, rfl⟩, by simp, by simp, ?_, ?_, ?_, ?_, ?_, ?_, ?_, rfl, rfl, rfl, rfl⟩
 · refine ⟨fun x x' y y' a b => ?_, fun x y a => ?_⟩
   · rcases a with a | ⟨rfl, rfl⟩ <;> rcases b with b | ⟨rfl, rfl⟩
     · exact h1.inj x x' y y' a b
     · have := h2.lt a
       omega
     · have := h2.lt b
       omega
     · simp
   · rcases a with a | ⟨rfl, rfl⟩
     · exact h1.low x y a
     · omega
 · intro r r' h
   rcases h with h | ⟨rfl, rfl⟩
   · obtain ⟨a, b, e1, e2, e3⟩ := h2 r r' h
     have := h2.lt h
     refine ⟨a, b, ?_, ?_, e3.mono (ext_add _ _ _)⟩
     · show (w.heap.push o)[r]? = some a
       rw [Array.getElem?_push, if_neg (by omega)]; exact e1
     · show (w'.heap.push o')[r']? = some b
       rw [Array.getElem?_push, if_neg (by omega)]; exact e2
   · exact ⟨o, o', by simp, by simp, ho.mono (ext_add _ _ _)⟩
 · rintro x y (h | ⟨rfl, rfl⟩)
   · exact .inl h
   · exact .inr ⟨Nat.le_refl _, Nat.le_refl _⟩
 · intro x hx _
   show (w.heap.push o)[x]? = _
   rw [Array.getElem?_push, if_neg (by omega)]
 · intro x hx _
   show (w'.heap.push o')[x]? = _
   rw [Array.getElem?_push, if_neg (by omega)]
 · intro x a e _
   show (w.heap.push o)[x]? = _
   rw [Array.getElem?_push, if_neg (by have := lt_of_some e; omega)]; exact e
 · intro x a e _
   show (w'.heap.push o')[x]? = _
   rw [Array.getElem?_push, if_neg (by have := lt_of_some e; omega)]; exact e
 · intro x a (e : (w.heap.push o)[x]? = some a) hc
   rw [Array.getElem?_push] at e
   split at e
   · cases e; exact (hnc hc).elim
   · exact e
 · intro x a (e : (w'.heap.push o')[x]? = some a) hc
   rw [Array.getElem?_push] at e
   split at e
   · cases e; exact (hnc' hc).elim
   · exact e
theorem moved_draw (h1 : One N ρ) (h2 : WRel F ρ w w') : Moved N F ρ w w' ρ { w with drawn := w.drawn + 1 } { w' with drawn := w'.drawn + 1 } :=
 ⟨Ext.refl _, h1, h2, rfl, rfl, ⟨1, rfl, rfl⟩, Nat.le_refl _, Nat.le_refl _, fun _ _ h => .inl h, fun _ _ _ => rfl, fun _ _ _ => rfl, fun _ _ h _ => h, fun _ _ h _ => h, fun _ _ h _ => h, fun _ _ h _ => h, rfl, rfl, rfl, rfl⟩
theorem moved_modify (h1 : One N ρ) (h2 : WRel F ρ w w') {r r' : Nat} (hr : ρ r r') {f f' : Obj -> Obj} (hf : ∀ o o', ObRel F ρ o o' -> ObRel F ρ (f o) (f' o')) (hc : ∀ o, isChan o -> f o = o) (hc' : ∀ o, isChan o -> f' o = o) (hb : ∀ o, isChan (f o) -> f o = o) (hb' : ∀ o, isChan (f' o) -> f' o = o) :
   Moved N F ρ w w' ρ { w with heap := w.heap.modify r f } { w' with heap := w'.heap.modify r' f' } := by
 have hm : ∀ (h : Array Obj) (j : Nat) (g : Obj -> Obj) (x : Nat), (h.modify j g)[x]? = if j = x then (h[x]?).map g else h[x]? := fun h j g x => Array.getElem?_modify
 refine ⟨Ext.refl _, h1, ?_, rfl, rfl, ⟨0, rfl, rfl⟩, by simp, by simp, fun _ _ h => .inl h, ?_, ?_, ?_, ?_, ?_, ?_, rfl, rfl, rfl, rfl⟩
 · intro x x' h
   obtain ⟨a, b, e1, e2, e3⟩ := h2 x x' h
   simp only [hm]
   by_cases e : r = x
   · have e' := (h1.inj r r' x x' hr h).1 e
     rw [if_pos e, if_pos e', e1, e2]
     exact ⟨_, _, rfl, rfl, hf a b e3⟩
   · have e' : ¬ r' = x' := fun k => e ((h1.inj r r' x x' hr h).2 k)
     rw [if_neg e, if_neg e']
     exact ⟨a, b, e1, e2, e3⟩
 · intro x _ hn
   simp only [hm]
   rw [if_neg (fun e : r = x => hn r' (e ▸ hr))]
 · intro x _ hn
   simp only [hm]
   rw [if_neg (fun e : r' = x => hn r (e ▸ hr))]
 · intro x o e ho
   simp only [hm]
   split
   · rw [e]; simp [hc o ho]
   · exact e
 · intro x o e ho
   simp only [hm]
   split
   · rw [e]; simp [hc' o ho]
   · exact e
 · intro x o e ho
   simp only [hm] at e
   split at e
   · obtain ⟨y, hy, rfl⟩ := Option.map_eq_some_iff.1 e
     rw [hy, hb y ho]
   · exact e
 · intro x o e ho
   simp only [hm] at e
   split at e
   · obtain ⟨y, hy, rfl⟩ := Option.map_eq_some_iff.1 e
     rw [hy, hb' y ho]
   · exact e
theorem moved_store (h1 : One N ρ) (h2 : WRel F ρ w w') {a a' : Addr} (ha : ARel ρ a a') {v v' : Value} (hv : VRel F ρ v v') : Moved N F ρ w w' ρ (w.setCell a v) (w'.setCell a' v') := by
 refine moved_modify h1 h2 ha.block (fun o o' ho => ?_) (fun o ho => ?_) (fun o ho => ?_) (fun o ho => ?_) (fun o ho => ?_)
 · cases ho with
   | cells e f h =>
     show ObRel F ρ (.cells (if a.spot.isSome then _ else _) e f) (.cells (if a'.spot.isSome then _ else _) e f)
     rw [ha.spot]
     split
     · exact .cells e f h
     · rw [ha.off]; exact .cells e f (h.set _ hv)
   | chan => exact .chan ..
   | number l x => exact .number l x
 · cases o <;> first | rfl | cases ho
 · cases o <;> first | rfl | cases ho
 · cases o <;> first | rfl | cases ho
 · cases o <;> first | rfl | cases ho
theorem moved_freeze (h1 : One N ρ) (h2 : WRel F ρ w w') {a a' : Addr} (ha : ARel ρ a a') (n : Nat) : Moved N F ρ w w' ρ (w.freeze a n) (w'.freeze a' n) := by
 unfold World.freeze
 split
 · exact .refl h1 h2
 · refine moved_modify h1 h2 ha.block (fun o o' ho => ?_) (fun o ho => ?_) (fun o ho => ?_) (fun o ho => ?_) (fun o ho => ?_)
   · cases ho with
     | cells e f h =>
       obtain ⟨lo, hi⟩ := f
       dsimp only
       rw [ha.off]; exact .cells e _ h
     | chan => exact .chan ..
     | number l x => exact .number l x
   · cases o <;> first | rfl | cases ho
   · cases o <;> first | rfl | cases ho
   · cases o <;> first | rfl | cases ho
   · cases o <;> first | rfl | cases ho
theorem rel_cell (h2 : WRel F ρ w w') {a a' : Addr} (ha : ARel ρ a a') : (∃ v v', w.cell? a = some v /\ w'.cell? a' = some v' /\ VRel F ρ v v') \/ w.cell? a = none := by
 obtain ⟨o, o', e1, e2, ho⟩ := h2 _ _ ha.block
 unfold World.cell?
 rw [e1, e2]
 cases ho with
 | cells e f h =>
   dsimp only
   rw [ha.spot]
   split
   · exact .inr rfl
   · have := h.get a.off
     rw [<- ha.off]
     rename_i c c' _
     generalize c[a.off]? = x, c'[a.off]? = y at this ⊢
     cases this with
     | none => exact .inr rfl
     | some h => exact .inl ⟨_, _, rfl, rfl, h⟩
 | chan => exact .inr rfl
 | number => exact .inr rfl
theorem far_stuck (h2 : WRel F ρ w w') {a a' : Addr} (ha : ARel ρ a a') (P : Program) (b : Bool) : ∃ m, w.farLoad P a b = .error (.stuck m) := by
 obtain ⟨o, o', e1, e2, ho⟩ := h2 _ _ ha.block
 unfold World.farLoad World.noCell
 rw [e1]
 cases ho <;> exact ⟨_, rfl⟩
theorem farS_stuck (h2 : WRel F ρ w w') {a a' : Addr} (ha : ARel ρ a a') (P : Program) (v : Value) (b : Bool) : ∃ m, w.farStore P a v b = .error (.stuck m) := by
 obtain ⟨o, o', e1, e2, ho⟩ := h2 _ _ ha.block
 unfold World.farStore World.noCell
 rw [e1]
 cases ho <;> exact ⟨_, rfl⟩
theorem rel_shape (h2 : WRel F ρ w w') {r r' : Nat} (hr : ρ r r') : w.shape? r = w'.shape? r' := by
 obtain ⟨o, o', e1, e2, ho⟩ := h2 _ _ hr
 unfold World.shape?
 rw [e1, e2]
 cases ho with
 | cells e f h => dsimp only; rw [h.size]
 | chan => rfl
 | number => rfl
theorem rel_frozen (h2 : WRel F ρ w w') {a a' : Addr} (ha : ARel ρ a a') : w.frozen? a = w'.frozen? a' := by
 obtain ⟨o, o', e1, e2, ho⟩ := h2 _ _ ha.block
 unfold World.frozen?
 rw [e1, e2]
 cases ho with
 | cells e f h => obtain ⟨lo, hi⟩ := f; dsimp only; rw [ha.off]
 | chan => rfl
 | number => rfl
end
/-! ### computations -/
def deadHalt : Halt -> Prop
 | .stuck _ => True
 | .unsupported (.initOrder _) => False
 | .unsupported _ => True
 | _ => False
def mildMark (m : Mark) : Prop := m = .noRoom \/ ∃ f, m = .extern f
inductive SRel (P : Program) (F : FuncId -> Prop) {α : Type} (A : Rn -> α -> α -> Prop) : Rn -> Sem α -> Sem α -> Prop
 | pure {ρ : Rn} {a a' : α} (h : A ρ a a') : SRel P F A ρ (.pure a) (.pure a')
 | load {ρ : Rn} {a a' : Addr} {k k' : Value -> Sem α} (ha : ARel ρ a a') (hk : ∀ v v', VRel F ρ v v' -> SRel P F A ρ (k v) (k' v')) : SRel P F A ρ (.load .plain a k) (.load .plain a' k')
 | store {ρ : Rn} {a a' : Addr} {v v' : Value} {k k' : Sem α} (ha : ARel ρ a a') (hv : VRel F ρ v v') (hk : SRel P F A ρ k k') : SRel P F A ρ (.store .plain a v k) (.store .plain a' v' k')
 | new {ρ : Rn} {o o' : Obj} {k k' : Nat -> Sem α} (ho : ObRel F ρ o o') (hnc : ¬ isChan o) (hk : ∀ r r', SRel P F A (addR ρ r r') (k r) (k' r')) : SRel P F A ρ (.new o k) (.new o' k')
 | shape {ρ : Rn} {r r' : Nat} {k k' : Option (TypeId × Nat) -> Sem α} (hr : ρ r r') (hk : ∀ s, SRel P F A ρ (k s) (k' s)) : SRel P F A ρ (.shape r k) (.shape r' k')
 | freeze {ρ : Rn} {a a' : Addr} {n : Nat} {k k' : Sem α} (ha : ARel ρ a a') (hk : SRel P F A ρ k k') : SRel P F A ρ (.freeze a n k) (.freeze a' n k')
 | frozen {ρ : Rn} {a a' : Addr} {k k' : Bool -> Sem α} (ha : ARel ρ a a') (hk : ∀ s, SRel P F A ρ (k s) (k' s)) : SRel P F A ρ (.frozen a k) (.frozen a' k')
 | choose {ρ : Rn} {q : Question} {k k' : Nat -> Sem α} (hk : ∀ s, SRel P F A ρ (k s) (k' s)) : SRel P F A ρ (.choose q k) (.choose q k')
 | program {ρ : Rn} {k k' : Program -> Sem α} (hk : SRel P F A ρ (k P) (k' P)) : SRel P F A ρ (.program k) (.program k')
 | mark {ρ : Rn} {m : Mark} {k k' : Sem α} (hm : mildMark m) (hk : SRel P F A ρ k k') : SRel P F A ρ (.mark m k) (.mark m k')
 | look {ρ : Rn} {r r' : Nat} {k k' : Obj -> Sem α} (hr : ρ r r') (hk : ∀ o o', ObRel F ρ o o' -> (∀ c e f, o ≠ .cells c e f) -> SRel P F A ρ (k o) (k' o')) : SRel P F A ρ (.getObj r k) (.getObj r' k')
 | env {ρ : Rn} {k k' : SysRet -> Sem α} (hk : ∀ r, SRel P F A ρ (k r) (k' r)) : SRel P F A ρ (.sys .env k) (.sys .env k')
 | use {ρ : Rn} {s s' : Sem α} (hk : One P.globals.size ρ -> SRel P F A ρ s s') : SRel P F A ρ s s'
 | panic {ρ : Rn} {v v' : Value} (h : VRel F ρ v v') : SRel P F A ρ (.halt (.panic v)) (.halt (.panic v'))
 | dead {ρ : Rn} {h : Halt} {s' : Sem α} (hh : deadHalt h) : SRel P F A ρ (.halt h) s'
theorem SRel.mono {P : Program} {F : FuncId -> Prop} {α : Type} {A B : Rn -> α -> α -> Prop} {ρ : Rn} {s s' : Sem α} (h : SRel P F A ρ s s') (hab : ∀ ρ a a', A ρ a a' -> B ρ a a') : SRel P F B ρ s s' := by
 induction h with
 | pure h => exact .pure (hab _ _ _ h)
 | load ha _ ih => exact .load ha ih
 | store ha hv _ ih => exact .store ha hv ih
 | new ho hnc _ ih => exact .new ho hnc ih
 | shape hr _ ih => exact .shape hr ih
 | freeze ha _ ih => exact .freeze ha ih
 | frozen ha _ ih => exact .frozen ha ih
 | choose _ ih => exact .choose ih
 | program _ ih => exact .program ih
 | mark hm _ ih => exact .mark hm ih
 | look hr _ ih => exact .look hr ih
 | env _ ih => exact .env ih
 | use _ ih => exact .use ih
 | panic h => exact .panic h
 | dead h => exact .dead h
theorem SRel.bind {P : Program} {F : FuncId -> Prop} {α β : Type} {A : Rn -> α -> α -> Prop} {B : Rn -> β -> β -> Prop} {ρ : Rn} {s s' : Sem α} {f f' : α -> Sem β} (h : SRel P F A ρ s s')
   (hf : ∀ ρ₁, Ext ρ ρ₁ -> ∀ a a', A ρ₁ a a' -> SRel P F B ρ₁ (f a) (f' a')) : SRel P F B ρ (s >>= f) (s' >>= f') := by
 show SRel P F B ρ (Sem.bind s f) (Sem.bind s' f')
 induction h with
 | pure h => exact hf _ (Ext.refl _) _ _ h
 | load ha _ ih => exact .load ha fun v v' hv => ih v v' hv hf
 | store ha hv _ ih => exact .store ha hv (ih hf)
 | new ho hnc _ ih => exact .new ho hnc fun r r' => ih r r' fun ρ₁ h => hf ρ₁ ((ext_add _ _ _).trans h)
 | shape hr _ ih => exact .shape hr fun s => ih s hf
 | freeze ha _ ih => exact .freeze ha (ih hf)
 | frozen ha _ ih => exact .frozen ha fun s => ih s hf
 | choose _ ih => exact .choose fun s => ih s hf
 | program _ ih => exact .program (ih hf)
 | mark hm _ ih => exact .mark hm (ih hf)
 | look hr _ ih => exact .look hr fun o o' h h' => ih o o' h h' hf
 | env _ ih => exact .env fun r => ih r hf
 | use _ ih => exact .use fun h => ih h hf
 | panic h => exact .panic h
 | dead h => exact .dead h
def chanAt (w : World) (r : Nat) : Prop := ∃ o, w.heap[r]? = some o /\ isChan o
def EvR (ρ : Rn) (w : World) (e : Event) : Prop := (∃ a x, e.loc = .cell a /\ e.sync = false /\ ρ x a.block /\ ¬ chanAt w a.block) \/ (∃ m, e.loc = .mark m /\ mildMark m) \/ (∃ r x b, e = ⟨.obj r, false, b⟩ /\ ρ x r /\ (b = true \/ ¬ chanAt w r)) \/ e.loc = .output
theorem EvR.mono {ρ ρ' : Rn} (h : Ext ρ ρ') {w : World} {e : Event} (x : EvR ρ w e) : EvR ρ' w e := by
 rcases x with ⟨a, x, h1, h2, h3, h4⟩ | x | ⟨r, x, b, h1, h2, h3⟩ | x
 · exact .inl ⟨a, x, h1, h2, h _ _ h3, h4⟩
 · exact .inr (.inl x)
 · exact .inr (.inr (.inl ⟨r, x, b, h1, h _ _ h2, h3⟩))
 · exact .inr (.inr (.inr x))
theorem EvR.back {ρ : Rn} {w w₁ : World} (hc : ∀ (y : Nat) (o : Obj), w.heap[y]? = some o -> isChan o -> w₁.heap[y]? = some o) {e : Event} (x : EvR ρ w₁ e) : EvR ρ w e := by
 rcases x with ⟨a, x, h1, h2, h3, h4⟩ | x | ⟨r, x, b, h1, h2, h3⟩ | x
 · exact .inl ⟨a, x, h1, h2, h3, fun ⟨o, k1, k2⟩ => h4 ⟨o, hc a.block o k1 k2, k2⟩⟩
 · exact .inr (.inl x)
 · exact .inr (.inr (.inl ⟨r, x, b, h1, h2, h3.imp id fun h ⟨o, k1, k2⟩ => h ⟨o, hc r o k1 k2, k2⟩⟩))
 · exact .inr (.inr (.inr x))
theorem not_chan_cell {w : World} {a : Addr} {v : Value} (h : w.cell? a = some v) : ¬ chanAt w a.block := by
 rintro ⟨o, h1, h2⟩
 unfold World.cell? at h
 rw [h1] at h
 cases o <;> first | (simp at h; done) | (cases h2; done)
inductive Side (P : Program) (F : FuncId -> Prop) {α : Type} (A : Rn -> α -> α -> Prop) (ρ : Rn) (w w' : World) (es' : Array Event) : Result α × Array Event -> Result α × Array Event -> Prop
 | ok {ρ₁ : Rn} {a a' : α} {w₁ w₁' : World} {e₁ new : Array Event} (m : Moved P.globals.size F ρ w w' ρ₁ w₁ w₁') (h : A ρ₁ a a') (hn : ∀ e ∈ new, EvR ρ₁ w' e) : Side P F A ρ w w' es' (.ok a w₁, e₁) (.ok a' w₁', es' ++ new)
 | panic {ρ₁ : Rn} {v v' : Value} {w₁ w₁' : World} {e₁ new : Array Event} (m : Moved P.globals.size F ρ w w' ρ₁ w₁ w₁') (h : VRel F ρ₁ v v') (hn : ∀ e ∈ new, EvR ρ₁ w' e) : Side P F A ρ w w' es' (.halt (.panic v) w₁, e₁) (.halt (.panic v') w₁', es' ++ new)
 | dead {h : Halt} {w₁ : World} {e₁ : Array Event} {r : Result α × Array Event} (hh : deadHalt h) : Side P F A ρ w w' es' (.halt h w₁, e₁) r
theorem Side.after {P : Program} {F : FuncId -> Prop} {α : Type} {A : Rn -> α -> α -> Prop} {ρ ρ₁ : Rn} {w w' w₁ w₁' : World} {es' new : Array Event} {x y : Result α × Array Event} (m : Moved P.globals.size F ρ w w' ρ₁ w₁ w₁') (hn : ∀ e ∈ new, EvR ρ₁ w' e)
   (h : Side P F A ρ₁ w₁ w₁' (es' ++ new) x y) : Side P F A ρ w w' es' x y := by
 cases h with
 | ok m2 h hn2 =>
   rw [Array.append_assoc]
   exact .ok (m.trans m2) h fun e he => (Array.mem_append.1 he).elim (fun h => (hn e h).mono m2.ext) (fun h => (hn2 e h).back m.chan')
 | panic m2 h hn2 =>
   rw [Array.append_assoc]
   exact .panic (m.trans m2) h fun e he => (Array.mem_append.1 he).elim (fun h => (hn e h).mono m2.ext) (fun h => (hn2 e h).back m.chan')
 | dead hh => exact .dead hh
theorem not_comp {F : FuncId -> Prop} {ρ : Rn} {v v' : Value} (h : VRel F ρ v v') : ((∃ c, v = .agg c) \/ ∃ c, v = .tuple c) \/ ((∀ c, v ≠ .agg c) /\ (∀ c, v ≠ .tuple c) /\ (∀ c, v' ≠ .agg c) /\ (∀ c, v' ≠ .tuple c)) := by
 cases h <;> simp
theorem SRel.side {P : Program} {F : FuncId -> Prop} {α : Type} {A : Rn -> α -> α -> Prop} {ρ : Rn} {s s' : Sem α} (h : SRel P F A ρ s s') :
   ∀ (w w' : World) (es es' : Array Event), One P.globals.size ρ -> WRel F ρ w w' -> Tied P.globals.size w w' -> Side P F A ρ w w' es' (s.runT P w es) (s'.runT P w' es') := by
 induction h with
 | pure h =>
   intro w w' es es' h1 h2 h3
   have := Side.ok (P := P) (es' := es') (e₁ := es) (new := #[]) (Moved.refl h1 h2) h (by simp)
   simpa [Sem.runT] using this
 | @load ρ a a' k k' ha _ ih =>
   intro w w' es es' h1 h2 h3
   simp only [Sem.runT]
   rcases rel_cell h2 ha with ⟨v, v', e1, e2, hv⟩ | h
   · rw [e1, e2]
     refine Side.after (new := #[⟨.cell a', false, false⟩]) (Moved.refl h1 h2) ?_ (ih v v' hv w w' _ _ h1 h2 h3)
     intro e he
     simp only [List.mem_toArray, List.mem_singleton] at he
     subst he
     exact .inl ⟨a', _, rfl, rfl, ha.block, not_chan_cell e2⟩
   · have hn : w.cell? a = none := h
     rw [hn]
     obtain ⟨m, e⟩ := far_stuck h2 ha P false
     have e' : w.farLoad P a (Mode.plain == Mode.atomic) = .error (.stuck m) := e
     dsimp only
     rw [e']
     exact .dead trivial
 | @store ρ a a' v v' k k' ha hv _ ih =>
   intro w w' es es' h1 h2 h3
   rcases not_comp hv with (⟨c, rfl⟩ | ⟨c, rfl⟩) | ⟨n1, n2, n3, n4⟩
   · exact .dead trivial
   · exact .dead trivial
   · have r1 : (Sem.store .plain a v k).runT P w es = (match w.cell? a with
         | some _ => if w.frozen? a then (.halt (.unsupported (.unsafePointer "a write to bytes that a string shares")) w, es) else k.runT P (w.setCell a v) (es.push ⟨.cell a, true, false⟩)
         | none => match w.farStore P a v false with
           | .ok (w, touched) => k.runT P w (es ++ touched.toArray.map (⟨.cell ·, true, false⟩))
           | .error h => (.halt h w, es)) := by
       rw [Sem.runT] <;> first | rfl | (intro c e; first | exact n1 c e | exact n2 c e)
     have r2 : (Sem.store .plain a' v' k').runT P w' es' = (match w'.cell? a' with
         | some _ => if w'.frozen? a' then (.halt (.unsupported (.unsafePointer "a write to bytes that a string shares")) w', es') else k'.runT P (w'.setCell a' v') (es'.push ⟨.cell a', true, false⟩)
         | none => match w'.farStore P a' v' false with
           | .ok (w, touched) => k'.runT P w (es' ++ touched.toArray.map (⟨.cell ·, true, false⟩))
           | .error h => (.halt h w', es')) := by
       rw [Sem.runT] <;> first | rfl | (intro c e; first | exact n3 c e | exact n4 c e)
     rw [r1, r2]
     rcases rel_cell h2 ha with ⟨u, u', e1, e2, hu⟩ | h
     · rw [e1, e2]
       dsimp only
       rw [rel_frozen h2 ha]
       split
       · exact .dead trivial
       · have m := moved_store h1 h2 ha hv
         refine Side.after (new := #[⟨.cell a', true, false⟩]) m ?_ (ih _ _ _ _ m.one m.rel (m.tied h3))
         intro e he
         simp only [List.mem_toArray, List.mem_singleton] at he
         subst he
         exact .inl ⟨a', _, rfl, rfl, ha.block, not_chan_cell e2⟩
     · have hn : w.cell? a = none := h
       rw [hn]
       obtain ⟨m, e⟩ := farS_stuck h2 ha P v false
       dsimp only
       rw [e]
       exact .dead trivial
 | @new ρ o o' k k' ho hnc _ ih =>
   intro w w' es es' h1 h2 h3
   have m := moved_new h1 h2 h3.size h3.size' ho hnc
   simp only [Sem.runT]
   exact Side.after (new := #[]) m (by simp) (by simpa using ih _ _ _ _ es es' m.one m.rel (m.tied h3))
 | @shape ρ r r' k k' hr _ ih =>
   intro w w' es es' h1 h2 h3
   simp only [Sem.runT]
   rw [rel_shape h2 hr]
   exact ih _ _ _ _ _ h1 h2 h3
 | @freeze ρ a a' n k k' ha _ ih =>
   intro w w' es es' h1 h2 h3
   have m := moved_freeze h1 h2 ha n
   simp only [Sem.runT]
   exact Side.after (new := #[]) m (by simp) (by simpa using ih _ _ es es' m.one m.rel (m.tied h3))
 | @frozen ρ a a' k k' ha _ ih =>
   intro w w' es es' h1 h2 h3
   simp only [Sem.runT]
   rw [rel_frozen h2 ha]
   exact ih _ _ _ _ _ h1 h2 h3
 | @choose ρ q k k' _ ih =>
   intro w w' es es' h1 h2 h3
   simp only [Sem.runT]
   split
   · exact ih _ _ _ _ _ h1 h2 h3
   · have e : w.tape w.drawn q = w'.tape w'.drawn q := h3.tape 0 q
     rw [e]
     have m := moved_draw h1 h2
     exact Side.after (new := #[]) m (by simp) (by simpa using ih _ _ _ es es' m.one m.rel (m.tied h3))
 | program _ ih =>
   intro w w' es es' h1 h2 h3
   simp only [Sem.runT]
   exact ih _ _ _ _ h1 h2 h3
 | @mark ρ m k k' hm _ ih =>
   intro w w' es es' h1 h2 h3
   simp only [Sem.runT]
   refine Side.after (new := #[⟨.mark m, false, true⟩]) (Moved.refl h1 h2) ?_ (ih w w' _ _ h1 h2 h3)
   intro e he
   simp only [List.mem_toArray, List.mem_singleton] at he
   subst he
   exact .inr (.inl ⟨m, rfl, hm⟩)
 | @look ρ r r' k k' hr _ ih =>
   intro w w' es es' h1 h2 h3
   obtain ⟨o, o', e1, e2, ho⟩ := h2 _ _ hr
   simp only [Sem.runT]
   rw [e1, e2]
   cases ho with
   | cells e f h => exact .dead trivial
   | chan a a' b b' x x' n n' m m' t t' =>
     refine Side.after (new := #[⟨.obj r', false, true⟩]) (Moved.refl h1 h2) ?_ (ih (.chan a b x n m t) (.chan a' b' x' n' m' t') (.chan ..) (by simp) w w' _ _ h1 h2 h3)
     intro e he
     simp only [List.mem_toArray, List.mem_singleton] at he
     subst he
     exact .inr (.inr (.inl ⟨r', _, true, rfl, hr, .inl rfl⟩))
   | @number a a' l x =>
     refine Side.after (new := #[⟨.obj r', false, false⟩]) (Moved.refl h1 h2) ?_ (ih (.number a l) (.number a' l) (.number l x) (by simp) w w' _ _ h1 h2 h3)
     intro e he
     simp only [List.mem_toArray, List.mem_singleton] at he
     subst he
     refine .inr (.inr (.inl ⟨r', _, false, rfl, hr, .inr ?_⟩))
     rintro ⟨o, k1, k2⟩
     rw [e2] at k1
     cases k1
     cases k2
 | @env ρ k k' _ ih =>
   intro w w' es es' h1 h2 h3
   have e1 : ∀ v : World, v.sys .env = (.strings v.os.env, v) := fun v => rfl
   simp only [Sem.runT, e1]
   rw [h3.os]
   refine Side.after (new := #[⟨.output, true, false⟩]) (Moved.refl h1 h2) ?_ (ih _ w w' _ _ h1 h2 h3)
   intro e he
   simp only [List.mem_toArray, List.mem_singleton] at he
   subst he
   exact .inr (.inr (.inr rfl))
 | use _ ih =>
   intro w w' es es' h1 h2 h3
   exact ih h1 w w' es es' h1 h2 h3
 | panic h =>
   intro w w' es es' h1 h2 h3
   have := Side.panic (P := P) (A := A) (es' := es') (e₁ := es) (new := #[]) (Moved.refl h1 h2) h (by simp)
   simpa [Sem.runT] using this
 | dead hh =>
   intro w w' es es' h1 h2 h3
   exact .dead hh
end Go.Bsd
namespace Go.Bsd
open Go.Conc
abbrev SV (P : Program) (F : FuncId -> Prop) (ρ : Rn) (s s' : Sem Value) : Prop := SRel P F (fun ρ v v' => VRel F ρ v v') ρ s s'
abbrev SE (P : Program) (F : FuncId -> Prop) {α : Type} (ρ : Rn) (s s' : Sem α) : Prop := SRel P F (fun _ a a' => a = a') ρ s s'
def ZGr (P : Program) (t : TypeId) : Prop := ∀ i v, P.info? t = some i -> i.zero = some v -> Gr v
section
variable {P : Program} {F : FuncId -> Prop} {ρ : Rn} {α β : Type} {A : Rn -> α -> α -> Prop} {B : Rn -> β -> β -> Prop}
theorem sr_program {k k' : Program -> Sem β} (h : SRel P F B ρ (k P) (k' P)) : SRel P F B ρ (program >>= k) (program >>= k') := .program h
theorem SRel.eqs {s s' : Sem α} (h : SE P F ρ s s') {f f' : α -> Sem β} (hf : ∀ ρ₁, Ext ρ ρ₁ -> ∀ a, SRel P F B ρ₁ (f a) (f' a)) : SRel P F B ρ (s >>= f) (s' >>= f') :=
 h.bind fun ρ₁ h₁ a a' e => e ▸ hf ρ₁ h₁ a
theorem sr_typeInfo {t : TypeId} {f f' : TypeInfo -> Sem β} (h : ∀ i, P.info? t = some i -> SRel P F B ρ (f i) (f' i)) : SRel P F B ρ (typeInfo t >>= f) (typeInfo t >>= f') := by
 refine .program ?_
 show SRel P F B ρ (Sem.bind (match P.info? t with | some i => pure i | none => stuck "no such type") f) (Sem.bind (match P.info? t with | some i => pure i | none => stuck "no such type") f')
 cases hi : P.info? t with
 | none => exact .dead trivial
 | some i => exact h i hi
theorem sr_underlying {t : TypeId} {f f' : TypeDesc -> Sem β} (h : ∀ d, P.underlying t = some d -> SRel P F B ρ (f d) (f' d)) : SRel P F B ρ (underlying t >>= f) (underlying t >>= f') := by
 refine .program ?_
 show SRel P F B ρ (Sem.bind (match P.underlying t with | some i => pure i | none => stuck "no such type") f) (Sem.bind (match P.underlying t with | some i => pure i | none => stuck "no such type") f')
 cases hi : P.underlying t with
 | none => exact .dead trivial
 | some i => exact h i hi
theorem sr_sizeOf {t : TypeId} {f f' : Nat -> Sem β} (h : ∀ i, P.info? t = some i -> SRel P F B ρ (f i.size) (f' i.size)) : SRel P F B ρ (sizeOf t >>= f) (sizeOf t >>= f') := by
 unfold sizeOf
 rw [bind_assoc, bind_assoc]
 exact sr_typeInfo fun i hi => h i hi
theorem sr_zero {t : TypeId} (hz : ZGr P t) {f f' : Value -> Sem β} (h : ∀ v, Gr v -> SRel P F B ρ (f v) (f' v)) : SRel P F B ρ (zeroValue t >>= f) (zeroValue t >>= f') := by
 unfold zeroValue
 rw [bind_assoc, bind_assoc]
 refine sr_typeInfo fun i hi => ?_
 cases hv : i.zero with
 | none => exact .dead trivial
 | some v => exact h v (hz i v hi hv)
theorem sr_isAgg {t : TypeId} {f f' : Bool -> Sem β} (h : ∀ b, SRel P F B ρ (f b) (f' b)) : SRel P F B ρ (isAgg t >>= f) (isAgg t >>= f') := by
 unfold isAgg
 rw [bind_assoc, bind_assoc]
 refine sr_underlying fun d _ => ?_
 cases d <;> exact h _
theorem sr_elemOf {t : TypeId} {f f' : TypeId -> Sem β} (h : ∀ e, SRel P F B ρ (f e) (f' e)) : SRel P F B ρ (elemOf t >>= f) (elemOf t >>= f') := by
 unfold elemOf
 rw [bind_assoc, bind_assoc]
 refine sr_underlying fun d _ => ?_
 cases d <;> first | exact h _ | exact .dead trivial
theorem sr_typeStr {t : TypeId} {f f' : String -> Sem β} (h : ∀ e, SRel P F B ρ (f e) (f' e)) : SRel P F B ρ (typeStr t >>= f) (typeStr t >>= f') := by
 unfold typeStr
 rw [bind_assoc, bind_assoc]
 refine sr_typeInfo fun d _ => ?_
 dsimp only
 by_cases hs : d.str.isEmpty = true
 · rw [if_pos hs]; exact .dead trivial
 · rw [if_neg hs]; exact h _
theorem sr_asIntOf {x x' : Value} (hx : VRel F ρ x x') {f f' : IntKind × Int -> Sem β} (h : ∀ k n, x = .int k n -> x' = .int k n -> SRel P F B ρ (f (k, n)) (f' (k, n))) : SRel P F B ρ (asIntOf x >>= f) (asIntOf x' >>= f') := by
 cases hx <;> first | exact h _ _ rfl rfl | exact .dead trivial | (rename_i a a' ha; cases ha <;> exact .dead trivial)
theorem sr_asInt {x x' : Value} (hx : VRel F ρ x x') {f f' : Int -> Sem β} (h : ∀ n, SRel P F B ρ (f n) (f' n)) : SRel P F B ρ (asInt x >>= f) (asInt x' >>= f') := by
 unfold asInt
 rw [bind_assoc, bind_assoc]
 exact sr_asIntOf hx fun k n _ _ => h n
theorem sr_asBool {x x' : Value} (hx : VRel F ρ x x') {f f' : Bool -> Sem β} (h : ∀ b, SRel P F B ρ (f b) (f' b)) : SRel P F B ρ (asBool x >>= f) (asBool x' >>= f') := by
 cases hx <;> first | exact h _ | exact .dead trivial
theorem sr_asAgg {x x' : Value} (hx : VRel F ρ x x') {f f' : Array Value -> Sem β} (h : ∀ c c', VsRel F ρ c c' -> SRel P F B ρ (f c) (f' c')) : SRel P F B ρ (asAgg x >>= f) (asAgg x' >>= f') := by
 cases hx <;> first | exact .dead trivial | (rename_i n k; exact h _ _ ⟨n, k⟩)
theorem sr_sureAddr {x x' : Value} (hx : VRel F ρ x x') {f f' : Addr -> Sem β} (h : ∀ a a', ARel ρ a a' -> SRel P F B ρ (f a) (f' a')) : SRel P F B ρ (Instr.sureAddr x >>= f) (Instr.sureAddr x' >>= f') := by
 cases hx <;> first | exact .dead trivial | (rename_i ha; cases ha <;> first | exact .dead trivial | (rename_i k; exact h _ _ k))
/-! ### panics of Go's own -/
theorem sr_newRow {e : TypeId} {c c' : Array Value} (hc : VsRel F ρ c c') {f f' : Addr -> Sem β} (h : ∀ r r', SRel P F B (addR ρ r r') (f ⟨r, 0, none⟩) (f' ⟨r', 0, none⟩)) : SRel P F B ρ (newRow e c >>= f) (newRow e c' >>= f') := by
 unfold newRow newObj
 exact .new (.cells e _ hc) (by simp [isChan, Obj.isChan]) fun r r' => h r r'
theorem ar_new (r r' : Nat) (o : Nat) : ARel (addR ρ r r') ⟨r, o, none⟩ ⟨r', o, none⟩ := ⟨.inr ⟨rfl, rfl⟩, rfl, rfl⟩
theorem sr_newVar {e : TypeId} {v v' : Value} (hv : VRel F ρ v v') {f f' : Addr -> Sem β} (h : ∀ r r', SRel P F B (addR ρ r r') (f ⟨r, 0, none⟩) (f' ⟨r', 0, none⟩)) : SRel P F B ρ (newVar e v >>= f) (newVar e v' >>= f') := sr_newRow hv.cells h
def plainErr : RuntimeError -> Prop
 | .typeAssertion .. | .unhashable _ => False
 | _ => True
theorem sr_runtimePanic {e : RuntimeError} (he : plainErr e) : SRel P F A ρ (runtimePanic e) (runtimePanic e) := by
 unfold runtimePanic
 refine sr_program ?_
 cases e with
 | bounds x y s c => exact .panic (.iface _ (.aggs (((VsRel.empty.push (.int _ _)).push (.int _ _)).push (.bool _) |>.push (.int _ _))))
 | error m => exact .panic (.iface _ (.string _))
 | plain m => exact .panic (.iface _ (.string _))
 | nilDeref => exact .panic (.iface _ (.string _))
 | typeAssertion => exact he.elim
 | panicNil => exact sr_elemOf fun e => sr_newVar (.aggs .empty) fun r r' => .panic (.iface _ (.pointer (.some (ar_new r r' 0))))
 | unhashable => exact he.elim
theorem sr_boundsPanic (k : IntKind) (x y : Int) (c : BoundsCode) : SRel P F A ρ (boundsPanic k x y c) (boundsPanic k x y c) := by
 unfold boundsPanic
 have tail : ∀ (s : Bool), SRel P F A ρ (runtimePanic (.bounds (IntKind.i64.wrap x) y s c)) (runtimePanic (.bounds (IntKind.i64.wrap x) y s c)) := fun s => sr_runtimePanic trivial
 split
 · exact .choose fun s => tail _
 · exact tail _
/-! ### memory -/
theorem sr_loadCellsFrom {a a' : Addr} : ∀ (n i : Nat) {acc acc' : Array Value} {ρ : Rn}, ARel ρ a a' -> VsRel F ρ acc acc' -> SRel P F (fun ρ v v' => VsRel F ρ v v') ρ (loadCellsFrom a i n acc) (loadCellsFrom a' i n acc')
 | 0, i, acc, acc', ρ, ha, hc => .pure hc
 | n + 1, i, acc, acc', ρ, ha, hc => .load (ha.add i) fun v v' hv => sr_loadCellsFrom n (i + 1) ha (hc.push hv)
theorem sr_loadCells {a a' : Addr} (ha : ARel ρ a a') (n : Nat) : SRel P F (fun ρ v v' => VsRel F ρ v v') ρ (loadCells a n) (loadCells a' n) := sr_loadCellsFrom n 0 ha .empty
theorem sr_loadVar {a a' : Addr} (ha : ARel ρ a a') (t : TypeId) : SV P F ρ (loadVar t a) (loadVar t a') := by
 unfold loadVar
 refine sr_isAgg fun b => ?_
 cases b
 · exact .load ha fun v v' hv => .pure hv
 · exact sr_sizeOf fun i _ => (sr_loadCells ha _).bind fun ρ₁ _ c c' hc => .pure (.aggs hc)
theorem sr_storeCells {a a' : Addr} : ∀ (l l' : List Value) (i : Nat) {ρ : Rn}, ARel ρ a a' -> l.length = l'.length -> (∀ (j : Nat) v v', l[j]? = some v -> l'[j]? = some v' -> VRel F ρ v v') ->
   SE P F ρ (storeCells a l i) (storeCells a' l' i)
 | [], [], i, ρ, ha, hl, h => .pure rfl
 | v :: l, v' :: l', i, ρ, ha, hl, h => by
   unfold storeCells
   exact .store (ha.add i) (h 0 v v' rfl rfl) (sr_storeCells l l' (i + 1) ha (by simpa using hl) fun j x x' h1 h2 => h (j + 1) x x' (by simpa using h1) (by simpa using h2))
theorem sr_storeArr {a a' : Addr} (ha : ARel ρ a a') {c c' : Array Value} (hc : VsRel F ρ c c') (i : Nat) : SE P F ρ (storeCells a c.toList i) (storeCells a' c'.toList i) :=
 sr_storeCells _ _ i ha (by simpa using hc.size) fun j v v' h1 h2 => hc.all j v v' (by simpa using h1) (by simpa using h2)
theorem sr_storeVar {a a' : Addr} (ha : ARel ρ a a') (t : TypeId) {v v' : Value} (hv : VRel F ρ v v') : SE P F ρ (storeVar t a v) (storeVar t a' v') := by
 unfold storeVar
 refine sr_sizeOf fun i _ => ?_
 rw [hv.cells.size]
 dsimp only
 by_cases h : v'.cells.size ≠ i.size
 · rw [if_pos h, if_pos h]; exact .dead trivial
 · rw [if_neg h, if_neg h]; exact sr_storeArr ha hv.cells 0
theorem sr_part {c c' : Array Value} (hc : VsRel F ρ c c') (t : TypeId) (off : Nat) : SV P F ρ (part t c off) (part t c' off) := by
 unfold part
 refine sr_isAgg fun b => ?_
 cases b
 · have := hc.get off
   simp only [Bool.false_eq_true, if_false]
   generalize c[off]? = x, c'[off]? = y at this
   cases this with
   | none => exact .dead trivial
   | some h => exact .pure h
 · exact sr_sizeOf fun i _ => .pure (.aggs (hc.extract _ _))
/-! ### loops -/
theorem se_forIn_list {γ σ : Type} {f f' : γ -> σ -> Sem (ForInStep σ)} : ∀ (l : List γ) {ρ : Rn} (b : σ), (∀ ρ₁, Ext ρ ρ₁ -> ∀ a b, SE P F ρ₁ (f a b) (f' a b)) -> SE P F ρ (forIn l b f) (forIn l b f')
 | [], ρ, b, h => by rw [List.forIn_nil, List.forIn_nil]; exact .pure rfl
 | a :: l, ρ, b, h => by
   rw [List.forIn_cons, List.forIn_cons]
   refine (h ρ (Ext.refl _) a b).eqs fun ρ₁ h₁ s => ?_
   cases s with
   | done b => exact .pure rfl
   | yield b => exact se_forIn_list l b fun ρ₂ h₂ => h ρ₂ (h₁.trans h₂)
theorem se_forIn_range {σ : Type} {f f' : Nat -> σ -> Sem (ForInStep σ)} (r : Std.Legacy.Range) (b : σ) (h : ∀ ρ₁, Ext ρ ρ₁ -> ∀ a b, SE P F ρ₁ (f a b) (f' a b)) : SE P F ρ (forIn r b f) (forIn r b f') := by
 rw [Std.Legacy.Range.forIn_eq_forIn_range', Std.Legacy.Range.forIn_eq_forIn_range']
 exact se_forIn_list _ _ h
theorem se_forIn_array {γ σ : Type} {f f' : γ -> σ -> Sem (ForInStep σ)} (l : Array γ) (b : σ) (h : ∀ ρ₁, Ext ρ ρ₁ -> ∀ a b, SE P F ρ₁ (f a b) (f' a b)) : SE P F ρ (forIn l b f) (forIn l b f') := by
 rw [<- Array.forIn_toList, <- Array.forIn_toList]
 exact se_forIn_list _ _ h
theorem se_mapM_list {γ σ : Type} {f : γ -> Sem σ} : ∀ (l : List γ) {ρ : Rn}, (∀ ρ₁, Ext ρ ρ₁ -> ∀ a, SE P F ρ₁ (f a) (f a)) -> SE P F ρ (l.mapM f) (l.mapM f)
 | [], ρ, h => by rw [List.mapM_nil]; exact .pure rfl
 | a :: l, ρ, h => by
   rw [List.mapM_cons]
   refine (h ρ (Ext.refl _) a).eqs fun ρ₁ h₁ s => ?_
   refine (se_mapM_list l fun ρ₂ h₂ => h ρ₂ (h₁.trans h₂)).eqs fun ρ₂ h₂ s => ?_
   exact .pure rfl
theorem se_mapM_array {γ σ : Type} {f : γ -> Sem σ} (l : Array γ) (h : ∀ ρ₁, Ext ρ ρ₁ -> ∀ a, SE P F ρ₁ (f a) (f a)) : SE P F ρ (l.mapM f) (l.mapM f) := by
 rw [Array.mapM_eq_mapM_toList]
 show SE P F ρ ((l.toList.mapM f) >>= fun x => pure x.toArray) ((l.toList.mapM f) >>= fun x => pure x.toArray)
 exact (se_mapM_list _ h).eqs fun _ _ _ => .pure rfl
/-! ### the parts of a whole -/
def PsRel (F : FuncId -> Prop) (ρ : Rn) : List (Nat × Value) -> List (Nat × Value) -> Prop
 | [], [] => True
 | (i, v) :: l, (i', v') :: l' => i = i' /\ VRel F ρ v v' /\ PsRel F ρ l l'
 | _, _ => False
theorem psRel_map {ps : Array (Nat × Operand)} {e e' : Operand -> Value} (h : ∀ x ∈ ps.toList, VRel F ρ (e x.2) (e' x.2)) : PsRel F ρ ((ps.map fun (i, x) => (i, e x)).toList) ((ps.map fun (i, x) => (i, e' x)).toList) := by
 obtain ⟨l⟩ := ps
 simp only [List.map_toArray]
 induction l with
 | nil => trivial
 | cons x l ih => exact ⟨rfl, h x (by simp), ih fun y hy => h y (by simp at hy ⊢; exact .inr hy)⟩
theorem vsRel_fold : ∀ (l l' : List (Value × Nat)) (off : Nat) {c c' : Array Value}, VsRel F ρ c c' -> l.length = l'.length -> (∀ (j : Nat) x x', l[j]? = some x -> l'[j]? = some x' -> VRel F ρ x.1 x'.1 /\ x.2 = x'.2) ->
   VsRel F ρ (l.foldl (fun cs x => cs.setIfInBounds (off + x.2) x.1) c) (l'.foldl (fun cs x => cs.setIfInBounds (off + x.2) x.1) c')
 | [], [], off, c, c', hc, hl, h => hc
 | x :: l, x' :: l', off, c, c', hc, hl, h => by
   have ⟨h1, h2⟩ := h 0 x x' rfl rfl
   rw [List.foldl_cons, List.foldl_cons]
   refine vsRel_fold l l' off ?_ (by simpa using hl) fun j y y' k1 k2 => h (j + 1) y y' (by simpa using k1) (by simpa using k2)
   rw [h2]
   exact hc.set _ h1
theorem fill_rel (place : Nat -> Option (Nat × Nat)) : ∀ (l l' : List (Nat × Value)) {c c' : Array Value}, PsRel F ρ l l' -> VsRel F ρ c c' -> OpRel (VsRel F ρ) (Instr.fill place c l) (Instr.fill place c' l')
 | [], [], c, c', hl, hc => .some hc
 | (i, v) :: l, (i', v') :: l', c, c', hl, hc => by
   obtain ⟨rfl, hv, hl⟩ := hl
   unfold Instr.fill
   cases place i with
   | none => exact .none
   | some x =>
     obtain ⟨off, size⟩ := x
     dsimp only
     rw [hv.cells.size, hc.size]
     split
     · exact .none
     · rw [<- Array.foldl_toList, <- Array.foldl_toList]
       refine fill_rel place l l' hl (vsRel_fold _ _ _ hc (by simp [hv.cells.size]) fun j x x' h1 h2 => ?_)
       rw [Array.getElem?_toList, Array.getElem?_zipIdx] at h1 h2
       obtain ⟨a, ha, rfl⟩ := Option.map_eq_some_iff.1 h1
       obtain ⟨b, hb, rfl⟩ := Option.map_eq_some_iff.1 h2
       exact ⟨hv.cells.all j a b ha hb, rfl⟩
 | [], _ :: _, c, c', hl, hc => hl.elim
 | _ :: _, [], c, c', hl, hc => hl.elim
theorem sr_fill {place : Nat -> Option (Nat × Nat)} {l l' : List (Nat × Value)} {c c' : Array Value} (hl : PsRel F ρ l l') (hc : VsRel F ρ c c') {m : String} {f f' : Array Value -> Sem β}
   (h : ∀ c c', VsRel F ρ c c' -> SRel P F B ρ (f c) (f' c')) : SRel P F B ρ (match Instr.fill place c l with | some cells => f cells | _ => stuck m) (match Instr.fill place c' l' with | some cells => f' cells | _ => stuck m) := by
 have := fill_rel place l l' hl hc
 generalize Instr.fill place c l = x, Instr.fill place c' l' = y at this
 cases this with
 | none => exact .dead trivial
 | some k => exact h _ _ k
theorem sr_build {t : TypeId} (hz : ZGr P t) {ps ps' : Array (Nat × Value)} (hp : PsRel F ρ ps.toList ps'.toList) : SV P F ρ (Instr.build t ps) (Instr.build t ps') := by
 unfold Instr.build
 refine sr_zero hz fun v hv => ?_
 refine sr_underlying fun d _ => ?_
 cases d <;> first | exact .dead trivial | skip
 · exact sr_sizeOf fun i _ => sr_fill hp (hv F ρ).cells fun c c' hc => .pure (.aggs hc)
 · refine (se_mapM_array _ fun ρ₁ _ a => ?_).bind fun ρ₁ h₁ x x' e => ?_
   · exact sr_sizeOf fun i _ => .pure rfl
   · subst e
     have hp' : PsRel F ρ₁ ps.toList ps'.toList := by
       have : ∀ (l l' : List (Nat × Value)), PsRel F ρ l l' -> PsRel F ρ₁ l l' := by
         intro l
         induction l with
         | nil => intro l' h; cases l' <;> first | trivial | exact h.elim
         | cons x l ih => intro l' h; cases l' with
           | nil => exact h.elim
           | cons x' l' => exact ⟨h.1, h.2.1.mono h₁, ih l' h.2.2⟩
       exact this _ _ hp
     exact sr_fill hp' (hv F ρ₁).cells fun c c' hc => .pure (.aggs hc)
theorem gr_cells {v : Value} (h : Gr v) (F : FuncId -> Prop) (ρ : Rn) : VsRel F ρ v.cells v.cells := (h F ρ).cells
theorem vsRel_each {c : Array Value} (h : ∀ v ∈ c, VRel F ρ v v) : VsRel F ρ c c := ⟨rfl, fun i v v' h1 h2 => by
 rw [h1] at h2; cases h2; exact h v (Array.mem_of_getElem? h1)⟩
theorem vr_bang {z : Array Value} (h : VsRel F ρ z z) (i : Nat) : VRel F ρ z[i]! z[i]! := by
 rw [getElem!_def]
 have := h.get i
 generalize z[i]? = x at this
 cases this with
 | none => exact .bool _
 | some h => exact h
theorem vsRel_tile {z : Array Value} (h : VsRel F ρ z z) (n : Nat) : VsRel F ρ ((Array.range n).map (z[· % z.size]!)) ((Array.range n).map (z[· % z.size]!)) := by
 refine vsRel_each fun v hv => ?_
 obtain ⟨i, _, rfl⟩ := Array.mem_map.1 hv
 exact vr_bang h _
theorem psRel_mono {ρ₁ : Rn} (h₁ : Ext ρ ρ₁) : ∀ {l l' : List (Nat × Value)}, PsRel F ρ l l' -> PsRel F ρ₁ l l'
 | [], [], _ => trivial
 | _ :: _, _ :: _, h => ⟨h.1, h.2.1.mono h₁, psRel_mono h₁ h.2.2⟩
 | [], _ :: _, h => h.elim
 | _ :: _, [], h => h.elim
theorem sr_buildSlice {t : TypeId} (hz : ∀ e, P.underlying t = some (.slice e) -> ZGr P e) (n : Nat) {ps ps' : Array (Nat × Value)} (hp : PsRel F ρ ps.toList ps'.toList) : SV P F ρ (Instr.buildSlice t n ps) (Instr.buildSlice t n ps') := by
 unfold Instr.buildSlice
 refine sr_underlying fun d hd => ?_
 cases d <;> first | exact .dead trivial | skip
 rename_i e
 refine sr_sizeOf fun i _ => ?_
 dsimp only
 have tail : ∀ {ρ₁ : Rn}, Ext ρ ρ₁ -> ∀ z : Array Value, VsRel F ρ₁ z z -> SV P F ρ₁ (match Instr.fill (fun j => some (j * i.size, i.size)) ((Array.range (n * i.size)).map (z[· % z.size]!)) ps.toList with | some cells => (do pure (.slice (some (<- newRow e cells)) n n) : Sem Value) | _ => stuck "buildSlice: a part of the wrong size")
     (match Instr.fill (fun j => some (j * i.size, i.size)) ((Array.range (n * i.size)).map (z[· % z.size]!)) ps'.toList with | some cells => (do pure (.slice (some (<- newRow e cells)) n n) : Sem Value) | _ => stuck "buildSlice: a part of the wrong size") := by
   intro ρ₁ h₁ z hz'
   exact sr_fill (psRel_mono h₁ hp) (vsRel_tile hz' _) fun c c' hc => sr_newRow hc fun r r' => .pure (.slice _ _ (.some (ar_new r r' 0)))
 split
 · exact .dead (by simp [deadHalt])
 · split
   · exact tail (Ext.refl _) #[] .empty
   · exact sr_zero (hz e hd) fun v hv => tail (Ext.refl _) v.cells (hv F ρ).cells
end
end Go.Bsd
