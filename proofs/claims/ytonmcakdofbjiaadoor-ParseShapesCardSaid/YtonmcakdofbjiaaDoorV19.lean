/-
  The parts: base Prs3 base Prs4 base Prs5
-/
import Derived.Test.YtonmcakdofbjiaaDoorV18
import Derived.Laws.StructEq
import Derived.Deep.RegionHeld3
import Derived.KernelRfl
set_option linter.unusedVariables false
set_option linter.unusedSimpArgs false
set_option linter.unusedSectionVars false
set_option linter.unnecessarySimpa false
set_option maxRecDepth 100000
set_option maxHeartbeats 8000000
namespace Go.Proofs.YtonmcakdofbjiaaDoor
open Go.RowKit
inductive Tr where
 | mk (n : Nd) (ks : List Tr)
inductive NT where
 | row (k : Nat)
 | rest (k : Nat) (left : Tr)
 | unary
 | atom
 | stmt
 | stmts
 | block
 | prog
def opsOf : Nat -> List (List UInt8 × Int)
 | 0 => [([124, 124], 15)]
 | 1 => [([38, 38], 14)]
 | 2 => [([60], 8), ([60, 61], 9), ([62], 10), ([62, 61], 11), ([61, 61], 12), ([33, 61], 13)]
 | 3 => [([43], 3), ([45], 4)]
 | _ => [([42], 5), ([47], 6), ([37], 7)]
def opAt (k : Nat) (l : List Item) (i : Nat) : Option Int := match l[i]? with
 | some t => if t.kind = 2 then (opsOf k).lookup t.text.toList else none
 | none => none
def andThen {α β : Type} : Option (Res α) -> (α -> Nat -> Option (Res β)) -> Option (Res β)
 | none, _ => none
 | some (.no p), _ => some (.no p)
 | some (.ok a j), f => f a j
def wantR (C : Ctx) (s : ByteArray) (i : Nat) : Option (Res Unit) := some (if comesB C.l i s then .ok () (i + 1) else .no (placeOf C.l C.e i))
def nameR (C : Ctx) (i : Nat) : Option (Res ByteArray) := some (if namedB C.l i then .ok (textAt C.l i) (i + 1) else .no (placeOf C.l C.e i))
def numberR (C : Ctx) (i : Nat) : Option (Res Int) := some (if numbB C.l i then .ok (numAtT C.l i) (i + 1) else .no (placeOf C.l C.e i))
def leafT (kind : Int) (name : ByteArray) (num op at_ : Int) (ks : List Tr) : Tr := .mk ⟨0, kind, name, num, op, at_⟩ ks
def noName : ByteArray := ⟨#[]⟩
def rd (C : Ctx) : Nat -> NT -> Nat -> Option (Res (List Tr))
 | 0, _, _ => none
 | f + 1, .row k, i =>
   if 5 <= k then rd C f .unary i
   else andThen (rd C f (.row (k + 1)) i) fun ts j => match ts with
     | [t] => rd C f (.rest k t) j
     | _ => none
 | f + 1, .rest k left, i =>
   match opAt k C.l i with
   | none => some (.ok [left] i)
   | some op => andThen (rd C f (.row (k + 1)) (i + 1)) fun ts j => match ts with
     | [t] => if k = 2 then some (.ok [leafT 15 noName 0 op (placeOf C.l C.e i) [left, t]] j) else rd C f (.rest k (leafT 15 noName 0 op (placeOf C.l C.e i) [left, t])) j
     | _ => none
 | f + 1, .unary, i =>
   if comesB C.l i ⟨#[45]⟩ then andThen (rd C f .unary (i + 1)) fun ts j => some (.ok [leafT 14 noName 0 1 (placeOf C.l C.e i) ts] j)
   else if comesB C.l i ⟨#[33]⟩ then andThen (rd C f .unary (i + 1)) fun ts j => some (.ok [leafT 14 noName 0 2 (placeOf C.l C.e i) ts] j)
   else rd C f .atom i
 | f + 1, .atom, i =>
   if comesB C.l i ⟨#[116, 114, 117, 101]⟩ then some (.ok [leafT 11 noName 1 0 (placeOf C.l C.e i) []] (i + 1))
   else if comesB C.l i ⟨#[102, 97, 108, 115, 101]⟩ then some (.ok [leafT 11 noName 0 0 (placeOf C.l C.e i) []] (i + 1))
   else if comesB C.l i ⟨#[40]⟩ then andThen (rd C f (.row 0) (i + 1)) fun ts j => andThen (wantR C ⟨#[41]⟩ j) fun _ j' => some (.ok ts j')
   else if namedB C.l i then
     if comesB C.l (i + 1) ⟨#[91]⟩ then andThen (rd C f (.row 0) (i + 2)) fun ts j => andThen (wantR C ⟨#[93]⟩ j) fun _ j' => some (.ok [leafT 13 (textAt C.l i) 0 0 (placeOf C.l C.e i) ts] j')
     else some (.ok [leafT 12 (textAt C.l i) 0 0 (placeOf C.l C.e i) []] (i + 1))
   else andThen (numberR C i) fun x j => some (.ok [leafT 10 noName x 0 (placeOf C.l C.e i) []] j)
 | f + 1, .stmt, i =>
   if namedB C.l i then
     if comesB C.l (i + 1) ⟨#[91]⟩ then
       andThen (rd C f (.row 0) (i + 2)) fun ts j => andThen (wantR C ⟨#[93]⟩ j) fun _ j => andThen (wantR C ⟨#[58, 61]⟩ j) fun _ j => andThen (rd C f (.row 0) j) fun us j =>
         andThen (wantR C ⟨#[59]⟩ j) fun _ j => some (.ok [leafT 3 (textAt C.l i) 0 0 (placeOf C.l C.e i) (ts ++ us)] j)
     else
       andThen (wantR C ⟨#[58, 61]⟩ (i + 1)) fun _ j => andThen (rd C f (.row 0) j) fun us j =>
         andThen (wantR C ⟨#[59]⟩ j) fun _ j => some (.ok [leafT 2 (textAt C.l i) 0 0 (placeOf C.l C.e i) us] j)
   else if comesB C.l i ⟨#[105, 110, 112, 117, 116]⟩ then andThen (nameR C (i + 1)) fun s j => andThen (wantR C ⟨#[59]⟩ j) fun _ j => some (.ok [leafT 4 s 0 0 (placeOf C.l C.e i) []] j)
   else if comesB C.l i ⟨#[97, 115, 115, 101, 114, 116]⟩ then andThen (rd C f (.row 0) (i + 1)) fun ts j => andThen (wantR C ⟨#[59]⟩ j) fun _ j => some (.ok [leafT 5 noName 0 0 (placeOf C.l C.e i) ts] j)
   else if comesB C.l i ⟨#[115, 107, 105, 112]⟩ then andThen (wantR C ⟨#[59]⟩ (i + 1)) fun _ j => some (.ok [leafT 6 noName 0 0 (placeOf C.l C.e i) []] j)
   else if comesB C.l i ⟨#[105, 102]⟩ then andThen (rd C f (.row 0) (i + 1)) fun ts j => andThen (rd C f .block j) fun us j =>
     if comesB C.l j ⟨#[101, 108, 115, 101]⟩ then andThen (rd C f .block (j + 1)) fun vs j => some (.ok [leafT 7 noName 0 0 (placeOf C.l C.e i) (ts ++ us ++ vs)] j)
     else some (.ok [leafT 7 noName 0 0 (placeOf C.l C.e i) (ts ++ us)] j)
   else if comesB C.l i ⟨#[119, 104, 105, 108, 101]⟩ then andThen (rd C f (.row 0) (i + 1)) fun ts j => andThen (rd C f .block j) fun us j => some (.ok [leafT 8 noName 0 0 (placeOf C.l C.e i) (ts ++ us)] j)
   else some (.ok [] i)
 | f + 1, .stmts, i => andThen (rd C f .stmt i) fun ts j => if ts.isEmpty then some (.ok [] j) else andThen (rd C f .stmts j) fun us j => some (.ok (ts ++ us) j)
 | f + 1, .block, i => andThen (wantR C ⟨#[123]⟩ i) fun _ j => andThen (rd C f .stmts j) fun ts j => andThen (wantR C ⟨#[125]⟩ j) fun _ j => some (.ok [leafT 9 noName 0 0 (placeOf C.l C.e i) ts] j)
 | f + 1, .prog, i =>
   if comesB C.l i ⟨#[118, 97, 114]⟩ then andThen (nameR C (i + 1)) fun s j => andThen (wantR C ⟨#[59]⟩ j) fun _ j => andThen (rd C f .prog j) fun us j => some (.ok (leafT 0 s 0 0 (placeOf C.l C.e i) [] :: us) j)
   else if comesB C.l i ⟨#[97, 114, 114, 97, 121]⟩ then andThen (nameR C (i + 1)) fun s j => andThen (wantR C ⟨#[91]⟩ j) fun _ j => andThen (numberR C j) fun x j => andThen (wantR C ⟨#[93]⟩ j) fun _ j =>
     andThen (wantR C ⟨#[59]⟩ j) fun _ j => andThen (rd C f .prog j) fun us j => some (.ok (leafT 1 s x 0 (placeOf C.l C.e i) [] :: us) j)
   else andThen (rd C f .stmts i) fun ts j => if j < C.l.length then some (.no (placeOf C.l C.e j)) else some (.ok ts j)
/-! ### trees in memory -/
inductive TrAt (X : Nat -> Prop) (w : World) : Nat -> Tr -> Prop
 | mk (p : Nat) (n : Nd) (ks : List Tr) (b : Option Addr) (cap g : Nat) (q : Nat -> Nat) (hp : w.heap[p]? = some (.cells #[.int .i64 n.depth, .int .i64 n.kind, .string n.name, .int .i64 n.num, .int .i64 n.op, .int .i64 n.at_, .slice b ks.length cap] 84 (0, 0))) (hpr : ¬ X p)
     (hb : ks ≠ [] -> b = some ⟨g, 0, none⟩) (hgr : ks ≠ [] -> ¬ X g) (hcap : ks.length <= cap) (hc : ∀ j t, ks[j]? = some t -> w.cell? ⟨g, j, none⟩ = some (.pointer (some ⟨q j, 0, none⟩))) (hk : ∀ j t, ks[j]? = some t -> TrAt X w (q j) t) : TrAt X w p (.mk n ks)
theorem TrAt.lt {X : Nat -> Prop} {w : World} {p : Nat} {t : Tr} (h : TrAt X w p t) : p < w.heap.size /\ ¬ X p := by
 cases h with
 | mk _ _ _ _ _ _ _ hp hpr => exact ⟨(Array.getElem?_eq_some_iff.1 hp).1, hpr⟩
theorem TrAt.kept {X : Nat -> Prop} {w w' : World} (hk : ∀ k, k < w.heap.size -> ¬ X k -> w'.heap[k]? = w.heap[k]?) {p : Nat} {t : Tr} (h : TrAt X w p t) : TrAt X w' p t := by
 induction h with
 | mk p n ks b cap g q hp hpr hb hgr hcap hc hkk ih =>
   refine .mk p n ks b cap g q ?_ hpr hb hgr hcap ?_ ih
   · rw [hk p (Array.getElem?_eq_some_iff.1 hp).1 hpr]; exact hp
   · intro j t hj
     have hne : ks ≠ [] := by rintro rfl; simp at hj
     have hl := World.block_lt_of_cell? w ⟨g, j, none⟩ (hc j t hj)
     exact (World.cell?_of_block (a := ⟨g, j, none⟩) (hk g hl (hgr hne))).trans (hc j t hj)
theorem TrAt.mono {X X' : Nat -> Prop} (hX : ∀ k, X' k -> X k) {w : World} {p : Nat} {t : Tr} (h : TrAt X w p t) : TrAt X' w p t := by
 induction h with
 | mk p n ks b cap g q hp hpr hb hgr hcap hc hkk ih => exact .mk p n ks b cap g q hp (fun h => hpr (hX _ h)) hb (fun h h' => hgr h (hX _ h')) hcap hc ih
theorem TrAt.bound {X : Nat -> Prop} {w : World} {p : Nat} {t : Tr} (h : TrAt X w p t) : TrAt (fun k => X k \/ w.heap.size <= k) w p t := by
 induction h with
 | mk p n ks b cap g q hp hpr hb hgr hcap hc hkk ih =>
   refine .mk p n ks b cap g q hp (fun h => h.elim hpr fun h => ?_) hb (fun hne h => h.elim (hgr hne) fun h => ?_) hcap hc ih
   · have := (Array.getElem?_eq_some_iff.1 hp).1; omega
   · cases hks : ks with
     | nil => exact hne hks
     | cons t l =>
       have := World.block_lt_of_cell? w ⟨g, 0, none⟩ (hc 0 t (by rw [hks]; rfl))
       simp only at this
       omega
def Old (C : Ctx) (w0 : World) (k : Nat) : Prop := k = C.r \/ k < w0.heap.size
theorem old_le {C : Ctx} {w w1 : World} (h : w.grownBy w1 (some C.r)) : ∀ k, Old C w k -> Old C w1 k := fun k hk => hk.imp id fun h' => Nat.lt_of_lt_of_le h' h.size
theorem TrAt.grew {C : Ctx} {w0 w w' : World} (hg : w.grownBy w' (some C.r)) {p : Nat} {t : Tr} (h : TrAt (Old C w0) w p t) : TrAt (Old C w0) w' p t :=
 h.kept fun k hk hx => hg.block k hk (by simp; rintro rfl; exact hx (.inl rfl))
/-! ### the rows' maps -/
theorem u229 : ∃ e, Tryd.prog.underlying 104 = some (.map 9 e) /\ ((Tryd.prog.info? e).map fun i => i.zero) = some (some (.int .i64 0)) := ⟨24, by kernel_rfl, by kernel_rfl⟩
theorem u9 : Tryd.prog.underlying 9 = some .string := by kernel_rfl
theorem run_checkKey (b : Bool) (s : ByteArray) (w : World) : (Instr.checkKey b 10000 9 (.string s)).run Tryd.prog w = .ok () w := by
 unfold Instr.checkKey
 simp [run_underlying u9]
theorem run_upd (w : World) (m : Nat) (es : Array MapEntry) (c : Nat) (s : ByteArray) (x : Int) (hm : w.heap[m]? = some (.map es c)) (h : Instr.findNow .string (.string s) es.toList 0 = some none) :
   (Instr.mapUpdate 104 (.map (some m)) (.string s) (.int .i64 x)).run Tryd.prog w = .ok () { w with heap := w.heap.setIfInBounds m (.map (es.push { key := .string s, val := .int .i64 x, born := c }) (c + 1)) } := by
 obtain ⟨e, hu, hz⟩ := u229
 have hk : (Instr.findKey 9 (.string s) es.toList).run Tryd.prog w = .ok none w := by
   unfold Instr.findKey
   simp [run_underlying u9, h]
 unfold Instr.mapUpdate
 simp [run_underlying hu, getObj, Sem.run, hm, run_checkKey, hk, setObj]
theorem alloc_over (w : World) (o o' : Obj) : ({ w.alloc o with heap := (w.alloc o).heap.setIfInBounds w.heap.size o' } : World) = w.alloc o' := by
 have h : (w.heap.push o).setIfInBounds w.heap.size o' = w.heap.push o' := by
   apply Array.ext_getElem?
   intro i
   by_cases hi : i = w.heap.size
   · subst hi; simp
   · rw [Array.getElem?_setIfInBounds_ne (Ne.symm hi), Array.getElem?_push, Array.getElem?_push, if_neg hi, if_neg hi]
 show ({ heap := (w.heap.push o).setIfInBounds w.heap.size o', tape := w.tape, drawn := w.drawn, os := w.os, output := w.output } : World) = { heap := w.heap.push o', tape := w.tape, drawn := w.drawn, os := w.os, output := w.output }
 rw [h]
theorem run_ins (w : World) (es : Array MapEntry) (c : Nat) (s : ByteArray) (x : Int) (h : Instr.findNow .string (.string s) es.toList 0 = some none) :
   (Instr.mapUpdate 104 (.map (some w.heap.size)) (.string s) (.int .i64 x)).run Tryd.prog (w.alloc (.map es c)) = .ok () (w.alloc (.map (es.push { key := .string s, val := .int .i64 x, born := c }) (c + 1))) := by
 rw [run_upd _ _ es c s x (heap_alloc_new w _) h]
 exact congrArg (Result.ok ()) (alloc_over w _ _)
theorem run_look (w : World) (m : Nat) (es : Array MapEntry) (c : Nat) (s : ByteArray) (r : Option (Nat × Value)) (hm : w.heap[m]? = some (.map es c)) (h : Instr.findNow .string (.string s) es.toList 0 = some r) :
   (Instr.lookup 104 (.map (some m)) (.string s) true).run Tryd.prog w = .ok (.tuple #[(r.map (·.2)).getD (.int .i64 0), .bool r.isSome]) w := by
 obtain ⟨e, hu, hz⟩ := u229
 have hk : (Instr.findKey 9 (.string s) es.toList).run Tryd.prog w = .ok r w := by
   unfold Instr.findKey
   simp [run_underlying u9, h]
 cases hi : Tryd.prog.info? e with
 | none => rw [hi] at hz; simp at hz
 | some i =>
   rw [hi] at hz
   simp at hz
   unfold Instr.lookup
   cases r <;> simp [run_underlying hu, getObj, Sem.run, hm, run_checkKey, hk, zeroValue, typeInfo, hi, hz]
def ent (x : List UInt8 × Int) (n : Nat) : MapEntry := { key := .string ⟨x.1.toArray⟩, val := .int .i64 x.2, born := n }
def mapOf (k : Nat) : Array MapEntry := ((opsOf k).zipIdx.map fun x => ent x.1 x.2).toArray
theorem findNow_ops (s : ByteArray) : ∀ (l : List (List UInt8 × Int)) (n i : Nat), ∃ j, Instr.findNow .string (.string s) ((l.zipIdx n).map fun x => ent x.1 x.2) i = some ((l.lookup s.toList).map fun v => (j, .int .i64 v)) := by
 intro l
 induction l with
 | nil => intro n i; exact ⟨0, rfl⟩
 | cons x l ih =>
   intro n i
   obtain ⟨j, hj⟩ := ih (n + 1) (i + 1)
   obtain ⟨a, v⟩ := x
   simp only [List.zipIdx_cons, List.map_cons, Instr.findNow, ent, Instr.sameNow]
   by_cases h : s.toList = a
   · have hb : (s == (⟨a.toArray⟩ : ByteArray)) = true := by rw [beq_toListBytes]; simp [h]
     rw [hb]
     refine ⟨i, ?_⟩
     simp [List.lookup, h]
   · have hb : (s == (⟨a.toArray⟩ : ByteArray)) = false := by rw [beq_toListBytes]; simp [h]
     rw [hb]
     refine ⟨j, ?_⟩
     have h' : (s.toList == a) = false := by simp [h]
     simp only [List.lookup, h']
     exact hj
theorem look_ops (k : Nat) (w : World) (m c : Nat) (s : ByteArray) (hm : w.heap[m]? = some (.map (mapOf k) c)) :
   (Instr.lookup 104 (.map (some m)) (.string s) true).run Tryd.prog w = .ok (.tuple #[.int .i64 (((opsOf k).lookup s.toList).getD 0), .bool ((opsOf k).lookup s.toList).isSome]) w := by
 obtain ⟨j, hj⟩ := findNow_ops s (opsOf k) 0 0
 rw [run_look w m (mapOf k) c s _ hm (by simpa [mapOf] using hj)]
 cases (opsOf k).lookup s.toList <;> rfl
end Go.Proofs.YtonmcakdofbjiaaDoor
namespace Go.Proofs.YtonmcakdofbjiaaDoor
open Go.RowKit
def isTree (C : Ctx) (w0 : World) : List Tr -> Value -> World -> Prop := fun ts v w' => ∃ t p, ts = [t] /\ v = .pointer (some ⟨p, 0, none⟩) /\ TrAt (Old C w0) w' p t
theorem calls_no {α : Type} {C : Ctx} {F : FuncId} {a : Array Value} {w : World} {p : Int} {val : α -> Value -> World -> Prop} (h : Calls Tryd.prog F a w (PPost C w (.no p) val)) : Calls Tryd.prog F a w fun e w' => ∃ ch, e = .panicked ch /\ Fails C w p ch w' := by
 refine h.mono fun e w' he => ?_
 cases e with
 | returned v => obtain ⟨_, _, h, _⟩ := he; cases h
 | panicked ch => obtain ⟨q, h, hF⟩ := he; cases h; exact ⟨ch, rfl, hF⟩
 | outgrown => exact he.elim
theorem calls_tree {C : Ctx} {F : FuncId} {a : Array Value} {w : World} {ts : List Tr} {j : Nat} (h : Calls Tryd.prog F a w (PPost C w (.ok ts j) (isTree C w))) : Calls Tryd.prog F a w fun e w' => ∃ t p, ts = [t] /\ e = .returned (.pointer (some ⟨p, 0, none⟩)) /\ TrAt (Old C w) w' p t /\ Rd C j w' /\ Grew C w w' := by
 refine h.mono fun e w' he => ?_
 cases e with
 | returned v => obtain ⟨_, _, h, ⟨t, p, h1, rfl, h2⟩, h3, h4⟩ := he; cases h; exact ⟨t, p, h1, rfl, h2, h3, h4⟩
 | panicked ch => obtain ⟨q, h, hF⟩ := he; cases h
 | outgrown => exact he.elim
theorem evalT4 (a : Act) (n : Nat) : a.eval (.tmp n) = a.tmps.getD n undef := rfl
theorem call_slot {a : Act} {o : Oper} {n : Nat} {fk : FuncId} {first cap : Array Value} {ts : Array TypeId} {w : World} (hfk : ∀ args w, (callFunc fk args).run Tryd.prog w = .ok (.enter fk args) w) (ho : o.op = .call { callee := .value (.tmp n), args := #[], argTypes := ts }) (h : a.tmps.getD n undef = .func (.func fk) first cap) :
   (execOp a.eval o).run Tryd.prog w = .ok (.enter fk (first ++ cap)) w := by
 unfold execOp
 rw [ho]
 simp [resolve, evalT4, h, Deferred.ofValue, invoke, hfk]
theorem post_tree {C : Ctx} {w wr : World} {r : Res (List Tr)} {t : Tr} {p j : Nat} (hr : r = .ok [t] j) (hT : TrAt (Old C w) wr p t) (hR : Rd C j wr) (hG : Grew C w wr) (n : Nat) : PPost C w r (isTree C w) (.returned (.pointer (some ⟨p, 0, none⟩))) (wr.drewN n) :=
 ⟨[t], j, hr, ⟨t, p, rfl, rfl, hT.grew (Grew.drewN wr n)⟩, hR.drewN n, grown_trans hG (Grew.drewN wr n)⟩
theorem at_rd (C : Ctx) (i : Nat) (w : World) (h : Rd C i w) : Calls Tryd.prog 31 #[.pointer (some ⟨C.r, 0, none⟩)] w fun x w' => x = .returned (.int .i64 (placeOf C.l C.e i)) /\ Rd C i w' /\ Grew C w w' :=
 (at_any C i w h).mono fun e w' ⟨h1, n, h2⟩ => by subst h2; exact ⟨h1, h.drewN n, Grew.drewN w n⟩
def Below5 (C : Ctx) (f k : Nat) (fk : FuncId) (args : Array Value) (Inv : World -> Prop) : Prop :=
 ∀ f', f' <= f -> ∀ i w r, rd C f' (.row (k + 1)) i = some r -> Rd C i w -> Inv w -> Calls Tryd.prog fk args w (PPost C w r (isTree C w))
def KidsAt (X : Nat -> Prop) (w : World) (b : Option Addr) (cap : Nat) (ks : List Tr) : Prop :=
 ∃ (g : Nat) (q : Nat -> Nat), (ks ≠ [] -> b = some ⟨g, 0, none⟩) /\ (ks ≠ [] -> ¬ X g) /\ ks.length <= cap /\ (∀ (j : Nat) (t : Tr), ks[j]? = some t -> w.cell? ⟨g, j, none⟩ = some (.pointer (some ⟨q j, 0, none⟩))) /\ ∀ (j : Nat) (t : Tr), ks[j]? = some t -> TrAt X w (q j) t
theorem KidsAt.kept {X : Nat -> Prop} {w w' : World} (hk : ∀ k, k < w.heap.size -> ¬ X k -> w'.heap[k]? = w.heap[k]?) {b : Option Addr} {cap : Nat} {ks : List Tr} (h : KidsAt X w b cap ks) : KidsAt X w' b cap ks := by
 obtain ⟨g, q, h1, h2, h3, h4, h5⟩ := h
 refine ⟨g, q, h1, h2, h3, fun j t hj => ?_, fun j t hj => (h5 j t hj).kept hk⟩
 have hne : ks ≠ [] := by rintro rfl; simp at hj
 have hl := World.block_lt_of_cell? w ⟨g, j, none⟩ (h4 j t hj)
 exact (World.cell?_of_block (a := ⟨g, j, none⟩) (hk g hl (h2 hne))).trans (h4 j t hj)
theorem KidsAt.grew {C : Ctx} {w0 w w' : World} (hg : Grew C w w') {b : Option Addr} {cap : Nat} {ks : List Tr} (h : KidsAt (Old C w0) w b cap ks) : KidsAt (Old C w0) w' b cap ks :=
 h.kept fun k hk hx => hg.block k hk (by simp; rintro rfl; exact hx (.inl rfl))
theorem tr_leaf {C : Ctx} {w0 w : World} (n : Nd) {b : Option Addr} {cap : Nat} {ks : List Tr} (h : KidsAt (Old C w0) w b cap ks) (hr : C.r < w.heap.size) (h0 : w0.heap.size <= w.heap.size) :
   TrAt (Old C w0) ((w.alloc (.cells #[.int .i64 n.depth, .int .i64 n.kind, .string n.name, .int .i64 n.num, .int .i64 n.op, .int .i64 n.at_] 26)).alloc (.cells #[.int .i64 n.depth, .int .i64 n.kind, .string n.name, .int .i64 n.num, .int .i64 n.op, .int .i64 n.at_, .slice b ks.length cap] 84)) (w.heap.size + 1) (.mk n ks) := by
 have hg : Grew C w ((w.alloc (.cells #[.int .i64 n.depth, .int .i64 n.kind, .string n.name, .int .i64 n.num, .int .i64 n.op, .int .i64 n.at_] 26)).alloc (.cells #[.int .i64 n.depth, .int .i64 n.kind, .string n.name, .int .i64 n.num, .int .i64 n.op, .int .i64 n.at_, .slice b ks.length cap] 84)) := grown_trans (World.grownBy_alloc _ _ _) (World.grownBy_alloc _ _ _)
 obtain ⟨g, q, h1, h2, h3, h4, h5⟩ := h.grew hg
 refine .mk _ n ks b cap g q ?_ (by unfold Old; omega) h1 h2 h3 h4 h5
 have := heap_alloc_new (w.alloc (.cells #[.int .i64 n.depth, .int .i64 n.kind, .string n.name, .int .i64 n.num, .int .i64 n.op, .int .i64 n.at_] 26)) (.cells #[.int .i64 n.depth, .int .i64 n.kind, .string n.name, .int .i64 n.num, .int .i64 n.op, .int .i64 n.at_, .slice b ks.length cap] 84)
 simpa using this
theorem kids0 (X : Nat -> Prop) (w : World) (b : Option Addr) (cap : Nat) : KidsAt X w b cap [] := ⟨0, fun _ => 0, fun h => absurd rfl h, fun h => absurd rfl h, Nat.zero_le _, fun j t hj => by simp at hj, fun j t hj => by simp at hj⟩
theorem kids1 {C : Ctx} {w0 w : World} {p : Nat} {t : Tr} (h : TrAt (Old C w0) w p t) (hr : C.r < w.heap.size) (h0 : w0.heap.size <= w.heap.size) : KidsAt (Old C w0) (w.alloc (.cells #[.pointer (some ⟨p, 0, none⟩)] 61)) (some ⟨w.heap.size, 0, none⟩) 1 [t] := by
 have hg : Grew C w (w.alloc (.cells #[.pointer (some ⟨p, 0, none⟩)] 61)) := World.grownBy_alloc _ _ _
 refine ⟨w.heap.size, fun _ => p, fun _ => rfl, fun _ => by unfold Old; omega, Nat.le_refl _, fun j u hj => ?_, fun j u hj => ?_⟩
 · match j, hj with
   | 0, hj => simp [go_sem]
   | j + 1, hj => simp at hj
 · match j, hj with
   | 0, hj => simp at hj; subst hj; exact h.grew hg
   | j + 1, hj => simp at hj
theorem kids2 {C : Ctx} {w0 w : World} {p p2 : Nat} {t t2 : Tr} (h : TrAt (Old C w0) w p t) (h2 : TrAt (Old C w0) w p2 t2) (hr : C.r < w.heap.size) (h0 : w0.heap.size <= w.heap.size) : KidsAt (Old C w0) (w.alloc (.cells #[.pointer (some ⟨p, 0, none⟩), .pointer (some ⟨p2, 0, none⟩)] 61)) (some ⟨w.heap.size, 0, none⟩) 2 [t, t2] := by
 have hg : Grew C w (w.alloc (.cells #[.pointer (some ⟨p, 0, none⟩), .pointer (some ⟨p2, 0, none⟩)] 61)) := World.grownBy_alloc _ _ _
 refine ⟨w.heap.size, fun j => if j = 0 then p else p2, fun _ => rfl, fun _ => by unfold Old; omega, Nat.le_refl _, fun j u hj => ?_, fun j u hj => ?_⟩
 · match j, hj with
   | 0, hj => simp [go_sem]
   | 1, hj => simp [go_sem]
   | j + 2, hj => simp at hj
 · match j, hj with
   | 0, hj => simp at hj; subst hj; exact h.grew hg
   | 1, hj => simp at hj; subst hj; exact h2.grew hg
   | j + 2, hj => simp at hj
theorem grew_alloc3 {C : Ctx} (w : World) (o1 o2 o3 : Obj) : Grew C w (((w.alloc o1).alloc o2).alloc o3) := grown_trans (grown_trans (World.grownBy_alloc _ _ _) (World.grownBy_alloc _ _ _)) (World.grownBy_alloc _ _ _)
theorem row_any (C : Ctx) (k f f2 : Nat) (fk : FuncId) (first cap : Array Value) (m c : Nat) (Inv : World -> Prop) (hfk : ∀ args w, (callFunc fk args).run Tryd.prog w = .ok (.enter fk args) w) (hI : ∀ w w', Inv w -> Grew C w w' -> Inv w')
   (hB : Below5 C f k fk (first ++ cap) Inv) (hf2 : f2 <= f) (i : Nat) (w : World) (r : Res (List Tr)) (hr : (andThen (rd C f2 (.row (k + 1)) i) fun ts j => match ts with
     | [t] => rd C f2 (.rest k t) j
     | _ => none) = some r) (h : Rd C i w) (hw : Inv w) (hm : w.heap[m]? = some (.map (mapOf k) c)) (hmr : m ≠ C.r) (b : Bool) (hb : b = decide (k = 2)) :
   Calls Tryd.prog 64 #[.pointer (some ⟨C.r, 0, none⟩), .func (.func fk) first cap, .bool b, .map (some m)] w (PPost C w r (isTree C w)) := by
 cases hx : rd C f2 (.row (k + 1)) i with
 | none => rw [hx] at hr; cases hr
 | some x =>
   rw [hx] at hr
   have hC := hB f2 hf2 i w x hx h hw
   cases x with
   | no p =>
     simp only [andThen, Option.some.injEq] at hr
     subst hr
     have hC := calls_no hC
     clear hx h hw hm
     go_enter Tryd.func64, Tryd.ntmps64
     go_wp2_with (first | (refine (hC).mono ?_; rintro e w' ⟨ch, rfl, hF⟩))
     exact ⟨rfl, _, rfl, hF⟩
   | ok ts j =>
     obtain ⟨t0, rfl⟩ : ∃ t0, ts = [t0] := by
       cases ts with
       | nil => simp [andThen] at hr
       | cons t0 l => cases l with
         | nil => exact ⟨t0, rfl⟩
         | cons _ _ => simp [andThen] at hr
     simp only [andThen] at hr
     have hC := calls_tree hC
     have HR := Lib.hid hr
     have HM := Lib.hid hm
     have HI := Lib.hid hI
     have HB := Lib.hid hB
     have HBB := Lib.hid hb
     clear hx hr h hm hI hB hb
     go_enter Tryd.func64, Tryd.ntmps64
     go_wp2_with (first | (refine (hC).mono ?_; rintro e w' ⟨t, p, hte, rfl, hT, hR, hG⟩))
     obtain rfl : t0 = t := by simpa using hte
     clear hte hC
     have HW := Lib.hid (HI.out _ _ hw hG)
     have HT := Lib.hid hT
     have HRd := Lib.hid hR
     have HG := Lib.hid hG
     clear hT hR hG hw
     go_loopg [9] f2 (fun g x wr => ∃ t p j, x = .pointer (some ⟨p, 0, none⟩) /\ TrAt (Old C w) wr p t /\ Rd C j wr /\ Grew C w wr /\ Inv wr /\ g <= f2 /\ rd C g (.rest k t) j = some r)
     case atStart => exact ⟨_, _, _, rfl, HT.out, HRd.out, HG.out, HW.out, Nat.le_refl _, HR.out⟩
     case round =>
       clear HT HRd HG HW HR
       obtain ⟨t, p, j, rfl, hT, hR, hG, hW, hgf, hr⟩ := hrel
       have hnot : ¬ (j < C.l.length /\ ∃ x, C.l[j]? = some x /\ x.kind = 2) -> opAt k C.l j = none := by
         intro hn
         unfold opAt
         cases hx : C.l[j]? with
         | none => rfl
         | some x =>
           have hk : x.kind ≠ 2 := fun hk => hn ⟨(List.getElem?_eq_some_iff.1 hx).1, x, hx, hk⟩
           simp [hk]
       have hend : opAt k C.l j = none -> r = .ok [t] j := by
         intro hn
         cases gk with
         | zero => cases hr
         | succ g =>
           simp only [rd, hn, Option.some.injEq] at hr
           exact hr.symm
       have hs := hR.ci
       have hlen := hR.len
       by_cases hlt : j < C.l.length
       · obtain ⟨g0, cp, q0, hcap, hg0, hxx⟩ := hR.cells hlt
         obtain ⟨x, hx⟩ : ∃ x, C.l[j]? = some x := ⟨_, List.getElem?_eq_getElem hlt⟩
         obtain ⟨x0, x1, x2, x3⟩ := hxx x hx
         have hdd : decide ((C.l.length : Int) <= (j : Int)) = false := by simp; omega
         by_cases hk : x.kind = 2
         · have hmw : wr.heap[m]? = some (.map (mapOf k) c) := (hG.block m (Array.getElem?_eq_some_iff.1 HM.out).1 (by simp [hmr])).trans HM.out
           have hlk : ∀ n, (Instr.lookup 104 (.map (some m)) (.string x.text) true).run Tryd.prog (wr.drewN n) = .ok (.tuple #[.int .i64 (((opsOf k).lookup x.text.toList).getD 0), .bool ((opsOf k).lookup x.text.toList).isSome]) (wr.drewN n) := fun n => look_ops k (wr.drewN n) m c x.text hmw
           rw [hk] at x0
           cases hop : (opsOf k).lookup x.text.toList with
           | none =>
             rw [hop] at hlk
             simp only [Option.getD_none, Option.isSome_none] at hlk
             have hres := hend (by unfold opAt; rw [hx]; simp [hk, hop])
             have HE := Lib.hid hres
             have HT := Lib.hid hT
             have HRd := Lib.hid hR
             have HG := Lib.hid hG
             clear hres hT hR hG hr hW hend hnot hxx hx hk x2 x3 hmw hop
             go_wp2_with fail
             go_quiet (fail)
             go_wp2_with fail
             go_quiet (fail)
             go_wp2_with fail
             go_ret
             exact post_tree HE.out HT.out HRd.out HG.out _
           | some op =>
             rw [hop] at hlk
             simp only [Option.getD_some, Option.isSome_some] at hlk
             have hoa : opAt k C.l j = some op := by unfold opAt; rw [hx]; simp [hk, hop]
             have hat := fun n => at_rd C j _ (hR.drewN n)
             have hpl : placeOf C.l C.e j = x.pos := by unfold placeOf; rw [hx]
             have hfz := hR.froz
             have HT := Lib.hid hT
             have HRd := Lib.hid hR
             have HG := Lib.hid hG
             have HR := Lib.hid hr
             have HW := Lib.hid hW
             have HO := Lib.hid hoa
             have HP := Lib.hid hpl
             have hltr := hR.lt
             clear hT hR hG hr hW hend hnot hxx hx hk x2 x3 hmw hop hoa hpl
             go_wp2_with fail
             go_quiet (fail)
             go_wp2_with fail
             go_quiet (fail)
             go_upto_region 9 with (go_at_call 31; refine (hat _).mono ?_; rintro e w2 ⟨rfl, hR2, hG2⟩; have c1 := hR2.ci; have cf := hR2.froz; have cl := hR2.lt)
             have hRW := (hR2.next (j := j + 1) hlt).alloc (Obj.cells #[Value.int IntKind.i64 0, Value.int IntKind.i64 15, Value.string { data := #[] }, Value.int IntKind.i64 0, Value.int IntKind.i64 op, Value.int IntKind.i64 (placeOf C.l C.e j)] 26)
             have hgW := grown_trans (grown_trans (grown_trans HG.out (Grew.drewN wr _)) hG2) (grown_trans (grown_set w2 C.r 1 (.int .i64 ((j + 1 : Nat) : Int))) (World.grownBy_alloc _ (Obj.cells #[Value.int IntKind.i64 0, Value.int IntKind.i64 15, Value.string { data := #[] }, Value.int IntKind.i64 0, Value.int IntKind.i64 op, Value.int IntKind.i64 (placeOf C.l C.e j)] 26) (some C.r)))
             have hgV := grown_trans (grown_trans (Grew.drewN wr _) hG2) (grown_trans (grown_set w2 C.r 1 (.int .i64 ((j + 1 : Nat) : Int))) (World.grownBy_alloc _ (Obj.cells #[Value.int IntKind.i64 0, Value.int IntKind.i64 15, Value.string { data := #[] }, Value.int IntKind.i64 0, Value.int IntKind.i64 op, Value.int IntKind.i64 (placeOf C.l C.e j)] 26) (some C.r)))
             have hTW := HT.out.grew hgV
             have hIW := HI.out _ _ HW.out hgV
             have hD : ∀ o v, [Value.int IntKind.i64 0, Value.int IntKind.i64 15, Value.string { data := #[] }, Value.int IntKind.i64 0, Value.int IntKind.i64 op, Value.int IntKind.i64 (placeOf C.l C.e j)][o]? = some v -> ((w2.setCell { block := C.r, off := 1 } (Value.int IntKind.i64 ((j + 1 : Nat) : Int))).alloc (Obj.cells #[Value.int IntKind.i64 0, Value.int IntKind.i64 15, Value.string { data := #[] }, Value.int IntKind.i64 0, Value.int IntKind.i64 op, Value.int IntKind.i64 (placeOf C.l C.e j)] 26)).cell? ⟨w2.heap.size, o, none⟩ = some v := by
               intro o v hv
               match o, hv with
               | 0, hv => simp at hv; subst hv; simp [go_sem]
               | 1, hv => simp at hv; subst hv; simp [go_sem]
               | 2, hv => simp at hv; subst hv; simp [go_sem]
               | 3, hv => simp at hv; subst hv; simp [go_sem]
               | 4, hv => simp at hv; subst hv; simp [go_sem]
               | 5, hv => simp at hv; subst hv; simp [go_sem]
               | o + 6, hv => simp at hv
             have hNr : w2.heap.size ≠ C.r := by omega
             have hNW : w2.heap.size < ((w2.setCell { block := C.r, off := 1 } (Value.int IntKind.i64 ((j + 1 : Nat) : Int))).alloc (Obj.cells #[Value.int IntKind.i64 0, Value.int IntKind.i64 15, Value.string { data := #[] }, Value.int IntKind.i64 0, Value.int IntKind.i64 op, Value.int IntKind.i64 (placeOf C.l C.e j)] 26)).heap.size := by simp
             rw [show ((↑j : Int) + 1) = ((j + 1 : Nat) : Int) from rfl]
             generalize ((w2.setCell { block := C.r, off := 1 } (Value.int IntKind.i64 ((j + 1 : Nat) : Int))).alloc (Obj.cells #[Value.int IntKind.i64 0, Value.int IntKind.i64 15, Value.string { data := #[] }, Value.int IntKind.i64 0, Value.int IntKind.i64 op, Value.int IntKind.i64 (placeOf C.l C.e j)] 26)) = W at hRW hgW hgV hTW hIW hD hNW ⊢
             generalize w2.heap.size = N at hD hNr hNW ⊢
             clear hgV hG2 hR2 c1 cf cl hlk hat hfz x0 x1 q0 hs hdd
             have D0 := hD 0 _ rfl
             have D1 := hD 1 _ rfl
             have D2 := hD 2 _ rfl
             have D3 := hD 3 _ rfl
             have D4 := hD 4 _ rfl
             have D5 := hD 5 _ rfl
             clear hD
             have hr := HR.out
             cases gk with
             | zero => cases hr
             | succ g =>
               simp only [rd, HO.out] at hr
               cases hx2 : rd C g (.row (k + 1)) (j + 1) with
               | none => rw [hx2] at hr; cases hr
               | some y =>
                 rw [hx2] at hr
                 have hC2 := HB.out g (by omega) (j + 1) W.drew y hx2 (hRW.drewN 1) (HI.out _ _ hIW (Grew.drewN W 1))
                 have HRW := Lib.hid hRW
                 have HGW := Lib.hid hgW
                 have HTW := Lib.hid hTW
                 have HIW := Lib.hid hIW
                 have HR2 := Lib.hid hr
                 clear hRW hgW hTW hIW hr hx2 HR HT HRd HG HW
                 cases y with
                 | no p2 =>
                   have hC2 := calls_no hC2
                   have HR3 : r = Res.no p2 := by
                     have := HR2.out
                     simp only [andThen, Option.some.injEq] at this
                     exact this.symm
                   have hQ : ∀ (d : Option Tmp) (v : Value) (c : List PanicEntry) (a : Act) (w' : World), bodyPost Tryd.prog Tryd.f64 (PPost C w r (isTree C w)) (.panic c) (a.put d v) w' -> bodyPost Tryd.prog Tryd.f64 (PPost C w r (isTree C w)) (.panic c) a w' := by
                     intro d v c a w' h
                     refine ⟨?_, h.2⟩
                     have h1 := h.1
                     cases d <;> exact h1
                   refine wp_region_held_drew (S := fun w' => w'.cell? ⟨N, 0, none⟩ = some (Value.int IntKind.i64 0) /\ w'.cell? ⟨N, 1, none⟩ = some (Value.int IntKind.i64 15) /\ w'.cell? ⟨N, 2, none⟩ = some (Value.string { data := #[] }) /\ w'.cell? ⟨N, 3, none⟩ = some (Value.int IntKind.i64 0) /\ w'.cell? ⟨N, 4, none⟩ = some (Value.int IntKind.i64 op) /\ w'.cell? ⟨N, 5, none⟩ = some (Value.int IntKind.i64 (placeOf C.l C.e j))) rfl ⟨D0, D1, D2, D3, D4, D5⟩ fun hS => ?_
                   refine wpAnyH_take (i := 0) (oi := _) (v := .agg #[Value.int IntKind.i64 0, Value.int IntKind.i64 15, Value.string { data := #[] }, Value.int IntKind.i64 0, Value.int IntKind.i64 op, Value.int IntKind.i64 (placeOf C.l C.e j)]) rfl (by kernel_rfl) (by kernel_rfl) (by kernel_rfl) (fun c a w' => hQ _ _ c a w') (.inl ⟨rfl, ?_⟩) hS ?_
                   · rintro w' ⟨d0, d1, d2, d3, d4, d5⟩
                     simp [execOp, evalT4, go_sem, d0, d1, d2, d3, d4, d5]
                   refine wpAnyH_take (i := 1) (oi := _) (v := .pointer (some ⟨p, 0, none⟩)) rfl (by kernel_rfl) (by kernel_rfl) (by kernel_rfl) (fun c a w' => hQ _ _ c a w') (.inl ⟨rfl, fun w' _ => rfl⟩) hS ?_
                   refine wpAnyH_take (i := 2) (oi := _) (v := .func (.func fk) first cap) rfl (by kernel_rfl) (by kernel_rfl) (by kernel_rfl) (fun c a w' => hQ _ _ c a w') (.inl ⟨rfl, fun w' _ => rfl⟩) hS ?_
                   refine wpAnyH_ready (rs := [3]) (by kernel_rfl) (by simp) fun i hi => ?_
                   obtain rfl : i = 3 := by simpa using hi
                   refine .inl ?_
                   unfold Oper.wp
                   rw [call_slot (n := 72) (fk := fk) (first := first) (cap := cap) (ts := #[]) hfk rfl rfl]
                   exact hC2.mono (by rintro e w' ⟨ch, rfl, hF⟩; exact ⟨rfl, _, HR3, hF.later (grown_trans HGW.out (Grew.drewN W 1))⟩)
                 | ok ts2 j2 =>
                   have hC2 := calls_tree hC2
                   have D0d : W.drew.cell? ⟨N, 0, none⟩ = some (Value.int IntKind.i64 0) := D0
                   have D1d : W.drew.cell? ⟨N, 1, none⟩ = some (Value.int IntKind.i64 15) := D1
                   have D2d : W.drew.cell? ⟨N, 2, none⟩ = some (Value.string { data := #[] }) := D2
                   have D3d : W.drew.cell? ⟨N, 3, none⟩ = some (Value.int IntKind.i64 0) := D3
                   have D4d : W.drew.cell? ⟨N, 4, none⟩ = some (Value.int IntKind.i64 op) := D4
                   have D5d : W.drew.cell? ⟨N, 5, none⟩ = some (Value.int IntKind.i64 (placeOf C.l C.e j)) := D5
                   have hne : some N ≠ some C.r := by simp [hNr]
                   go_region_held3 (fun w' => w'.cell? ⟨N, 0, none⟩ = some (Value.int IntKind.i64 0) /\ w'.cell? ⟨N, 1, none⟩ = some (Value.int IntKind.i64 15) /\ w'.cell? ⟨N, 2, none⟩ = some (Value.string { data := #[] }) /\ w'.cell? ⟨N, 3, none⟩ = some (Value.int IntKind.i64 0) /\ w'.cell? ⟨N, 4, none⟩ = some (Value.int IntKind.i64 op) /\ w'.cell? ⟨N, 5, none⟩ = some (Value.int IntKind.i64 (placeOf C.l C.e j))) (first | exact ⟨D0, D1, D2, D3, D4, D5⟩ | exact ⟨d0, d1, d2, d3, d4, d5⟩ | go_keep)
                     (first | (go_at_call 33; refine (leaf_any ⟨0, 15, ⟨#[]⟩, 0, op, placeOf C.l C.e j⟩ _ _ _ _).mono ?_; rintro e w4 ⟨rfl, rfl⟩) | (refine (hC2).mono ?_; rintro e w3 ⟨t2, p2, hte, rfl, hT3, hR3, hG3⟩; have d0 := hG3.cell D0d hne; have d1 := hG3.cell D1d hne; have d2 := hG3.cell D2d hne; have d3 := hG3.cell D3d hne; have d4 := hG3.cell D4d hne; have d5 := hG3.cell D5d hne))
                   subst hte
                   have hgA := grown_trans (Grew.drewN (C := C) W 1) hG3
                   have hT1 := HTW.out.grew hgA
                   have hgC := grown_trans HGW.out hgA
                   have hK := kids2 hT1 (hT3.mono (old_le (grown_trans HGW.out (Grew.drewN W 1)))) hR3.lt hgC.size
                   have hTn := tr_leaf ⟨0, 15, ⟨#[]⟩, 0, op, placeOf C.l C.e j⟩ hK (by have := hR3.lt; simp; omega) (by have := hgC.size; simp; omega)
                   have hgB := grew_alloc3 (C := C) w3 (Obj.cells #[Value.pointer (some { block := p, off := 0 }), Value.pointer (some { block := p2, off := 0 })] 61) (Obj.cells #[Value.int IntKind.i64 0, Value.int IntKind.i64 15, Value.string { data := #[] }, Value.int IntKind.i64 0, Value.int IntKind.i64 op, Value.int IntKind.i64 (placeOf C.l C.e j)] 26) (Obj.cells #[Value.int IntKind.i64 0, Value.int IntKind.i64 15, Value.string { data := #[] }, Value.int IntKind.i64 0, Value.int IntKind.i64 op, Value.int IntKind.i64 (placeOf C.l C.e j), Value.slice (some { block := w3.heap.size, off := 0 }) 2 2] 84)
                   have hR4 := ((hR3.alloc (Obj.cells #[Value.pointer (some { block := p, off := 0 }), Value.pointer (some { block := p2, off := 0 })] 61)).alloc (Obj.cells #[Value.int IntKind.i64 0, Value.int IntKind.i64 15, Value.string { data := #[] }, Value.int IntKind.i64 0, Value.int IntKind.i64 op, Value.int IntKind.i64 (placeOf C.l C.e j)] 26)).alloc (Obj.cells #[Value.int IntKind.i64 0, Value.int IntKind.i64 15, Value.string { data := #[] }, Value.int IntKind.i64 0, Value.int IntKind.i64 op, Value.int IntKind.i64 (placeOf C.l C.e j), Value.slice (some { block := w3.heap.size, off := 0 }) 2 2] 84)
                   have hG4 := grown_trans HGW.out (grown_trans hgA hgB)
                   have hI4 := HI.out _ _ HIW.out (grown_trans hgA hgB)
                   have hsz : (w3.alloc (Obj.cells #[Value.pointer (some { block := p, off := 0 }), Value.pointer (some { block := p2, off := 0 })] 61)).heap.size + 1 = w3.heap.size + 1 + 1 := by simp
                   rw [hsz] at hTn
                   have hr := HR2.out
                   simp only [andThen] at hr
                   have HT4 := Lib.hid hTn
                   have HR4 := Lib.hid hR4
                   have HG4 := Lib.hid hG4
                   have HI4 := Lib.hid hI4
                   clear hgC hgA hT1 hK hTn hgB hR4 hG4 hI4 hsz hT3 hR3 hG3 hC2 d0 d1 d2 d3 d4 d5 D0 D1 D2 D3 D4 D5 D0d D1d D2d D3d D4d D5d
                   by_cases hk2 : k = 2
                   · rw [if_pos hk2] at hr
                     have hbt : b = true := by rw [HBB.out]; simp [hk2]
                     subst hbt
                     have HE := Lib.hid (Option.some.inj hr)
                     clear hr hk2
                     go_wp2
                     go_ret
                     exact post_tree HE.out.symm HT4.out HR4.out HG4.out 0
                   · rw [if_neg hk2] at hr
                     have hbt : b = false := by rw [HBB.out]; simp [hk2]
                     subst hbt
                     have HE := Lib.hid hr
                     clear hr hk2
                     go_wp2
                     go_roundg g
                     case measure => omega
                     case rel => exact ⟨_, _, _, rfl, HT4.out, HR4.out, HG4.out, HI4.out, by omega, HE.out⟩
         · have hk1 : (x.kind == 2) = false := by simp [hk]
           have hk2 : (x.kind != 2) = true := by simp [hk]
           have hres := hend (hnot fun ⟨_, y, hy, hy2⟩ => hk (by rw [hx] at hy; cases hy; exact hy2))
           have HE := Lib.hid hres
           have HT := Lib.hid hT
           have HRd := Lib.hid hR
           have HG := Lib.hid hG
           clear hres hT hR hG hr hW hend hnot hxx hx hk x1 x2 x3
           go_wp2_with fail
           go_quiet (fail)
           go_wp2_with fail
           go_ret
           exact post_tree HE.out HT.out HRd.out HG.out _
       · have hdd : decide ((C.l.length : Int) <= (j : Int)) = true := by simp; omega
         have hres := hend (hnot fun ⟨h, _⟩ => hlt h)
         obtain ⟨⟨b0, cp, g0, q0, _, hcap, _, _⟩, _⟩ := id hR
         have HE := Lib.hid hres
         have HT := Lib.hid hT
         have HRd := Lib.hid hR
         have HG := Lib.hid hG
         clear hres hT hR hG hr hW hend hnot
         go_wp2_with fail
         go_quiet (fail)
         go_wp2_with fail
         go_ret
         exact post_tree HE.out HT.out HRd.out HG.out _
end Go.Proofs.YtonmcakdofbjiaaDoor
namespace Go.Proofs.YtonmcakdofbjiaaDoor
open Go.RowKit
def pre (k n : Nat) : Array MapEntry := (((opsOf k).zipIdx.map fun x => ent x.1 x.2).take n).toArray
def Box (C : Ctx) (bx : Nat) (w : World) : Prop := w.cell? ⟨bx, 0, none⟩ = some (.pointer (some ⟨C.r, 0, none⟩)) /\ bx ≠ C.r
theorem Box.grew {C : Ctx} {bx : Nat} (w w' : World) (h : Box C bx w) (hg : Grew C w w') : Box C bx w' := ⟨hg.cell h.1 (by simp [h.2]), h.2⟩
structure Exprs (C : Ctx) (f : Nat) : Prop where
 expr : ∀ i w r, rd C f (.row 0) i = some r -> Rd C i w -> Calls Tryd.prog 60 #[.pointer (some ⟨C.r, 0, none⟩)] w (PPost C w r (isTree C w))
 r1 : ∀ i w r bx, rd C f (.row 1) i = some r -> Rd C i w -> Box C bx w -> Calls Tryd.prog 65 #[.pointer (some ⟨bx, 0, none⟩)] w (PPost C w r (isTree C w))
 r2 : ∀ i w r bx, rd C f (.row 2) i = some r -> Rd C i w -> Box C bx w -> Calls Tryd.prog 66 #[.pointer (some ⟨bx, 0, none⟩)] w (PPost C w r (isTree C w))
 r3 : ∀ i w r bx, rd C f (.row 3) i = some r -> Rd C i w -> Box C bx w -> Calls Tryd.prog 67 #[.pointer (some ⟨bx, 0, none⟩)] w (PPost C w r (isTree C w))
 r4 : ∀ i w r bx, rd C f (.row 4) i = some r -> Rd C i w -> Box C bx w -> Calls Tryd.prog 68 #[.pointer (some ⟨bx, 0, none⟩)] w (PPost C w r (isTree C w))
 r5 : ∀ i w r, rd C f (.row 5) i = some r -> Rd C i w -> Calls Tryd.prog 69 #[.pointer (some ⟨C.r, 0, none⟩)] w (PPost C w r (isTree C w))
 unary : ∀ i w r, rd C f .unary i = some r -> Rd C i w -> Calls Tryd.prog 69 #[.pointer (some ⟨C.r, 0, none⟩)] w (PPost C w r (isTree C w))
 atom : ∀ i w r, rd C f .atom i = some r -> Rd C i w -> Calls Tryd.prog 72 #[.pointer (some ⟨C.r, 0, none⟩)] w (PPost C w r (isTree C w))
theorem exprs_zero (C : Ctx) : Exprs C 0 := by
 constructor <;> (intros; rename_i h; first | exact absurd ‹rd C 0 _ _ = some _› (by simp [rd]))
theorem run_makeMap229 (k : Nat) (w : World) : (Instr.makeMap 104 none).run Tryd.prog w = .ok (.map (some w.heap.size)) (w.alloc (.map (pre k 0) 0)) := rfl
theorem callFunc_of {f : FuncId} {fn : Func} (hf : Tryd.prog.funcs[f]? = some fn) (hn : (fn.name == "runtime.NumGoroutine") = false) (hb : fn.body.isNone = false) (args : Array Value) (w : World) : (callFunc f args).run Tryd.prog w = .ok (.enter f args) w := by
 have hn' : ¬ fn.name = "runtime.NumGoroutine" := by simpa using hn
 have hb' : ¬ fn.body = none := by intro e; rw [e] at hb; cases hb
 simp [callFunc, hf, hn', hb']
theorem cf169 (args : Array Value) (w : World) : (callFunc 65 args).run Tryd.prog w = .ok (.enter 65 args) w := callFunc_of Tryd.func65 (by kernel_rfl) (by kernel_rfl) args w
theorem cf170 (args : Array Value) (w : World) : (callFunc 66 args).run Tryd.prog w = .ok (.enter 66 args) w := callFunc_of Tryd.func66 (by kernel_rfl) (by kernel_rfl) args w
theorem cf171 (args : Array Value) (w : World) : (callFunc 67 args).run Tryd.prog w = .ok (.enter 67 args) w := callFunc_of Tryd.func67 (by kernel_rfl) (by kernel_rfl) args w
theorem cf172 (args : Array Value) (w : World) : (callFunc 68 args).run Tryd.prog w = .ok (.enter 68 args) w := callFunc_of Tryd.func68 (by kernel_rfl) (by kernel_rfl) args w
theorem cf173 (args : Array Value) (w : World) : (callFunc 69 args).run Tryd.prog w = .ok (.enter 69 args) w := callFunc_of Tryd.func69 (by kernel_rfl) (by kernel_rfl) args w
theorem ins_0_0 (w : World) : (Instr.mapUpdate 104 (.map (some w.heap.size)) (.string { data := #[124, 124] }) (.int .i64 15)).run Tryd.prog (w.alloc (.map (pre 0 0) 0)) = .ok () (w.alloc (.map (pre 0 1) 1)) := run_ins w (pre 0 0) 0 ⟨#[124, 124]⟩ 15 (by rfl)
theorem ins_1_0 (w : World) : (Instr.mapUpdate 104 (.map (some w.heap.size)) (.string { data := #[38, 38] }) (.int .i64 14)).run Tryd.prog (w.alloc (.map (pre 1 0) 0)) = .ok () (w.alloc (.map (pre 1 1) 1)) := run_ins w (pre 1 0) 0 ⟨#[38, 38]⟩ 14 (by rfl)
theorem ins_2_0 (w : World) : (Instr.mapUpdate 104 (.map (some w.heap.size)) (.string { data := #[60] }) (.int .i64 8)).run Tryd.prog (w.alloc (.map (pre 2 0) 0)) = .ok () (w.alloc (.map (pre 2 1) 1)) := run_ins w (pre 2 0) 0 ⟨#[60]⟩ 8 (by rfl)
theorem ins_2_1 (w : World) : (Instr.mapUpdate 104 (.map (some w.heap.size)) (.string { data := #[60, 61] }) (.int .i64 9)).run Tryd.prog (w.alloc (.map (pre 2 1) 1)) = .ok () (w.alloc (.map (pre 2 2) 2)) := run_ins w (pre 2 1) 1 ⟨#[60, 61]⟩ 9 (by rfl)
theorem ins_2_2 (w : World) : (Instr.mapUpdate 104 (.map (some w.heap.size)) (.string { data := #[62] }) (.int .i64 10)).run Tryd.prog (w.alloc (.map (pre 2 2) 2)) = .ok () (w.alloc (.map (pre 2 3) 3)) := run_ins w (pre 2 2) 2 ⟨#[62]⟩ 10 (by rfl)
theorem ins_2_3 (w : World) : (Instr.mapUpdate 104 (.map (some w.heap.size)) (.string { data := #[62, 61] }) (.int .i64 11)).run Tryd.prog (w.alloc (.map (pre 2 3) 3)) = .ok () (w.alloc (.map (pre 2 4) 4)) := run_ins w (pre 2 3) 3 ⟨#[62, 61]⟩ 11 (by rfl)
theorem ins_2_4 (w : World) : (Instr.mapUpdate 104 (.map (some w.heap.size)) (.string { data := #[61, 61] }) (.int .i64 12)).run Tryd.prog (w.alloc (.map (pre 2 4) 4)) = .ok () (w.alloc (.map (pre 2 5) 5)) := run_ins w (pre 2 4) 4 ⟨#[61, 61]⟩ 12 (by rfl)
theorem ins_2_5 (w : World) : (Instr.mapUpdate 104 (.map (some w.heap.size)) (.string { data := #[33, 61] }) (.int .i64 13)).run Tryd.prog (w.alloc (.map (pre 2 5) 5)) = .ok () (w.alloc (.map (pre 2 6) 6)) := run_ins w (pre 2 5) 5 ⟨#[33, 61]⟩ 13 (by rfl)
theorem ins_3_0 (w : World) : (Instr.mapUpdate 104 (.map (some w.heap.size)) (.string { data := #[43] }) (.int .i64 3)).run Tryd.prog (w.alloc (.map (pre 3 0) 0)) = .ok () (w.alloc (.map (pre 3 1) 1)) := run_ins w (pre 3 0) 0 ⟨#[43]⟩ 3 (by rfl)
theorem ins_3_1 (w : World) : (Instr.mapUpdate 104 (.map (some w.heap.size)) (.string { data := #[45] }) (.int .i64 4)).run Tryd.prog (w.alloc (.map (pre 3 1) 1)) = .ok () (w.alloc (.map (pre 3 2) 2)) := run_ins w (pre 3 1) 1 ⟨#[45]⟩ 4 (by rfl)
theorem ins_4_0 (w : World) : (Instr.mapUpdate 104 (.map (some w.heap.size)) (.string { data := #[42] }) (.int .i64 5)).run Tryd.prog (w.alloc (.map (pre 4 0) 0)) = .ok () (w.alloc (.map (pre 4 1) 1)) := run_ins w (pre 4 0) 0 ⟨#[42]⟩ 5 (by rfl)
theorem ins_4_1 (w : World) : (Instr.mapUpdate 104 (.map (some w.heap.size)) (.string { data := #[47] }) (.int .i64 6)).run Tryd.prog (w.alloc (.map (pre 4 1) 1)) = .ok () (w.alloc (.map (pre 4 2) 2)) := run_ins w (pre 4 1) 1 ⟨#[47]⟩ 6 (by rfl)
theorem ins_4_2 (w : World) : (Instr.mapUpdate 104 (.map (some w.heap.size)) (.string { data := #[37] }) (.int .i64 7)).run Tryd.prog (w.alloc (.map (pre 4 2) 2)) = .ok () (w.alloc (.map (pre 4 3) 3)) := run_ins w (pre 4 2) 2 ⟨#[37]⟩ 7 (by rfl)
theorem step_r1 (C : Ctx) (n : Nat) (ih : ∀ f, f <= n -> Exprs C f) (i : Nat) (w : World) (r : Res (List Tr)) (bx : Nat) (hr : rd C (n + 1) (.row 1) i = some r) (h : Rd C i w) (hb : Box C bx w) : Calls Tryd.prog 65 #[.pointer (some ⟨bx, 0, none⟩)] w (PPost C w r (isTree C w)) := by
 have hrow : ∀ (m : Nat) (W : World), Grew C w W -> W.heap[m]? = some (.map (mapOf 1) 1) -> m ≠ C.r -> Rd C i W -> Calls Tryd.prog 64 #[.pointer (some ⟨C.r, 0, none⟩), .func (.func 66) #[] #[.pointer (some ⟨bx, 0, none⟩)], .bool false, .map (some m)] W (PPost C W r (isTree C W)) := fun m W hg hm hmr hR =>
   row_any C 1 n n 66 #[] #[.pointer (some ⟨bx, 0, none⟩)] m 1 (Box C bx) cf170 (fun w w' h hg => Box.grew w w' h hg) (fun f' hf' i w r hr hR hB => (ih f' hf').r2 i w r bx hr hR hB) (Nat.le_refl _) i W r (by have h1 := hr; simp only [rd, show ¬ 5 <= 1 from by omega, if_false] at h1; exact h1) hR (hb.grew _ _ hg) hm hmr _ (by decide)
 have hmk := run_makeMap229 1
 have g0 := ins_1_0
 have q0 := hb.1
 have hlt := h.lt
 have HRd := Lib.hid h
 clear hr h ih
 cases r with
 | no p =>
   have hrow := fun m W a b c d => calls_no (hrow m W a b c d)
   go_enter Tryd.func65, Tryd.ntmps65
   go_wp2_with (go_at_call 64; refine (hrow _ _ (World.grownBy_alloc w _ _) (heap_alloc_new w _) (by omega) (HRd.out.alloc _)).mono ?_; rintro e w' ⟨ch, rfl, hF⟩)
   exact ⟨rfl, _, rfl, hF.later (World.grownBy_alloc w _ _)⟩
 | ok ts j =>
   have hrow := fun m W a b c d => calls_tree (hrow m W a b c d)
   go_enter Tryd.func65, Tryd.ntmps65
   go_wp2_with (go_at_call 64; refine (hrow _ _ (World.grownBy_alloc w _ _) (heap_alloc_new w _) (by omega) (HRd.out.alloc _)).mono ?_; rintro e w' ⟨t, p, rfl, rfl, hT, hR, hG⟩)
   go_ret
   exact post_tree rfl (hT.mono (old_le (World.grownBy_alloc w _ _))) hR (grown_trans (World.grownBy_alloc w _ _) hG) 0
theorem step_r2 (C : Ctx) (n : Nat) (ih : ∀ f, f <= n -> Exprs C f) (i : Nat) (w : World) (r : Res (List Tr)) (bx : Nat) (hr : rd C (n + 1) (.row 2) i = some r) (h : Rd C i w) (hb : Box C bx w) : Calls Tryd.prog 66 #[.pointer (some ⟨bx, 0, none⟩)] w (PPost C w r (isTree C w)) := by
 have hrow : ∀ (m : Nat) (W : World), Grew C w W -> W.heap[m]? = some (.map (mapOf 2) 6) -> m ≠ C.r -> Rd C i W -> Calls Tryd.prog 64 #[.pointer (some ⟨C.r, 0, none⟩), .func (.func 67) #[] #[.pointer (some ⟨bx, 0, none⟩)], .bool true, .map (some m)] W (PPost C W r (isTree C W)) := fun m W hg hm hmr hR =>
   row_any C 2 n n 67 #[] #[.pointer (some ⟨bx, 0, none⟩)] m 6 (Box C bx) cf171 (fun w w' h hg => Box.grew w w' h hg) (fun f' hf' i w r hr hR hB => (ih f' hf').r3 i w r bx hr hR hB) (Nat.le_refl _) i W r (by have h1 := hr; simp only [rd, show ¬ 5 <= 2 from by omega, if_false] at h1; exact h1) hR (hb.grew _ _ hg) hm hmr _ (by decide)
 have hmk := run_makeMap229 2
 have g0 := ins_2_0
 have g1 := ins_2_1
 have g2 := ins_2_2
 have g3 := ins_2_3
 have g4 := ins_2_4
 have g5 := ins_2_5
 have q0 := hb.1
 have hlt := h.lt
 have HRd := Lib.hid h
 clear hr h ih
 cases r with
 | no p =>
   have hrow := fun m W a b c d => calls_no (hrow m W a b c d)
   go_enter Tryd.func66, Tryd.ntmps66
   go_wp2_with (go_at_call 64; refine (hrow _ _ (World.grownBy_alloc w _ _) (heap_alloc_new w _) (by omega) (HRd.out.alloc _)).mono ?_; rintro e w' ⟨ch, rfl, hF⟩)
   exact ⟨rfl, _, rfl, hF.later (World.grownBy_alloc w _ _)⟩
 | ok ts j =>
   have hrow := fun m W a b c d => calls_tree (hrow m W a b c d)
   go_enter Tryd.func66, Tryd.ntmps66
   go_wp2_with (go_at_call 64; refine (hrow _ _ (World.grownBy_alloc w _ _) (heap_alloc_new w _) (by omega) (HRd.out.alloc _)).mono ?_; rintro e w' ⟨t, p, rfl, rfl, hT, hR, hG⟩)
   go_ret
   exact post_tree rfl (hT.mono (old_le (World.grownBy_alloc w _ _))) hR (grown_trans (World.grownBy_alloc w _ _) hG) 0
theorem step_r3 (C : Ctx) (n : Nat) (ih : ∀ f, f <= n -> Exprs C f) (i : Nat) (w : World) (r : Res (List Tr)) (bx : Nat) (hr : rd C (n + 1) (.row 3) i = some r) (h : Rd C i w) (hb : Box C bx w) : Calls Tryd.prog 67 #[.pointer (some ⟨bx, 0, none⟩)] w (PPost C w r (isTree C w)) := by
 have hrow : ∀ (m : Nat) (W : World), Grew C w W -> W.heap[m]? = some (.map (mapOf 3) 2) -> m ≠ C.r -> Rd C i W -> Calls Tryd.prog 64 #[.pointer (some ⟨C.r, 0, none⟩), .func (.func 68) #[] #[.pointer (some ⟨bx, 0, none⟩)], .bool false, .map (some m)] W (PPost C W r (isTree C W)) := fun m W hg hm hmr hR =>
   row_any C 3 n n 68 #[] #[.pointer (some ⟨bx, 0, none⟩)] m 2 (Box C bx) cf172 (fun w w' h hg => Box.grew w w' h hg) (fun f' hf' i w r hr hR hB => (ih f' hf').r4 i w r bx hr hR hB) (Nat.le_refl _) i W r (by have h1 := hr; simp only [rd, show ¬ 5 <= 3 from by omega, if_false] at h1; exact h1) hR (hb.grew _ _ hg) hm hmr _ (by decide)
 have hmk := run_makeMap229 3
 have g0 := ins_3_0
 have g1 := ins_3_1
 have q0 := hb.1
 have hlt := h.lt
 have HRd := Lib.hid h
 clear hr h ih
 cases r with
 | no p =>
   have hrow := fun m W a b c d => calls_no (hrow m W a b c d)
   go_enter Tryd.func67, Tryd.ntmps67
   go_wp2_with (go_at_call 64; refine (hrow _ _ (World.grownBy_alloc w _ _) (heap_alloc_new w _) (by omega) (HRd.out.alloc _)).mono ?_; rintro e w' ⟨ch, rfl, hF⟩)
   exact ⟨rfl, _, rfl, hF.later (World.grownBy_alloc w _ _)⟩
 | ok ts j =>
   have hrow := fun m W a b c d => calls_tree (hrow m W a b c d)
   go_enter Tryd.func67, Tryd.ntmps67
   go_wp2_with (go_at_call 64; refine (hrow _ _ (World.grownBy_alloc w _ _) (heap_alloc_new w _) (by omega) (HRd.out.alloc _)).mono ?_; rintro e w' ⟨t, p, rfl, rfl, hT, hR, hG⟩)
   go_ret
   exact post_tree rfl (hT.mono (old_le (World.grownBy_alloc w _ _))) hR (grown_trans (World.grownBy_alloc w _ _) hG) 0
theorem step_r4 (C : Ctx) (n : Nat) (ih : ∀ f, f <= n -> Exprs C f) (i : Nat) (w : World) (r : Res (List Tr)) (bx : Nat) (hr : rd C (n + 1) (.row 4) i = some r) (h : Rd C i w) (hb : Box C bx w) : Calls Tryd.prog 68 #[.pointer (some ⟨bx, 0, none⟩)] w (PPost C w r (isTree C w)) := by
 have hrow : ∀ (m : Nat) (W : World), Grew C w W -> W.heap[m]? = some (.map (mapOf 4) 3) -> m ≠ C.r -> Rd C i W -> Calls Tryd.prog 64 #[.pointer (some ⟨C.r, 0, none⟩), .func (.func 69) #[.pointer (some ⟨C.r, 0, none⟩)] #[], .bool false, .map (some m)] W (PPost C W r (isTree C W)) := fun m W hg hm hmr hR =>
   row_any C 4 n n 69 #[.pointer (some ⟨C.r, 0, none⟩)] #[] m 3 (fun _ => True) cf173 (fun _ _ _ _ => trivial) (fun f' hf' i w r hr hR _ => (ih f' hf').r5 i w r hr hR) (Nat.le_refl _) i W r (by have h1 := hr; simp only [rd, show ¬ 5 <= 4 from by omega, if_false] at h1; exact h1) hR trivial hm hmr _ (by decide)
 have hmk := run_makeMap229 4
 have g0 := ins_4_0
 have g1 := ins_4_1
 have g2 := ins_4_2
 have q0 := hb.1
 have hlt := h.lt
 have HRd := Lib.hid h
 clear hr h ih
 cases r with
 | no p =>
   have hrow := fun m W a b c d => calls_no (hrow m W a b c d)
   go_enter Tryd.func68, Tryd.ntmps68
   go_wp2_with (go_at_call 64; refine (hrow _ _ (World.grownBy_alloc w _ _) (heap_alloc_new w _) (by omega) (HRd.out.alloc _)).mono ?_; rintro e w' ⟨ch, rfl, hF⟩)
   exact ⟨rfl, _, rfl, hF.later (World.grownBy_alloc w _ _)⟩
 | ok ts j =>
   have hrow := fun m W a b c d => calls_tree (hrow m W a b c d)
   go_enter Tryd.func68, Tryd.ntmps68
   go_wp2_with (go_at_call 64; refine (hrow _ _ (World.grownBy_alloc w _ _) (heap_alloc_new w _) (by omega) (HRd.out.alloc _)).mono ?_; rintro e w' ⟨t, p, rfl, rfl, hT, hR, hG⟩)
   go_ret
   exact post_tree rfl (hT.mono (old_le (World.grownBy_alloc w _ _))) hR (grown_trans (World.grownBy_alloc w _ _) hG) 0
end Go.Proofs.YtonmcakdofbjiaaDoor
