/-
  The parts: Prs14 Prs15 Tok7 Prs16 Prs17
-/
import Derived.Test.YtonmcakdofbjiaaGreatDoorV23
import Derived.Test.YtonmcakdofbjiaaGreatDoorV19
set_option linter.unusedVariables false
set_option linter.unusedSimpArgs false
set_option linter.unusedSectionVars false
set_option linter.unnecessarySimpa false
set_option maxRecDepth 100000
set_option maxHeartbeats 8000000
namespace Go.Proofs.YtonmcakdofbjiaaGreatDoor
def Le {α : Type} (x y : Option (Res α)) : Prop := ∀ r, x = some r -> y = some r
theorem Le.refl {α : Type} (x : Option (Res α)) : Le x x := fun _ h => h
theorem le_then {α β : Type} {x y : Option (Res α)} {F G : α -> Nat -> Option (Res β)} (h : Le x y) (k : ∀ a j, Le (F a j) (G a j)) : Le (andThen x F) (andThen y G) := by
 intro r hr
 cases x with
 | none => cases hr
 | some z =>
   rw [h z rfl]
   cases z with
   | no p => exact hr
   | ok a j => exact k a j r hr
theorem le_ite {α : Type} {c : Prop} [Decidable c] {x y x' y' : Option (Res α)} (h : c -> Le x x') (k : ¬ c -> Le y y') : Le (if c then x else y) (if c then x' else y') := by
 by_cases hc : c
 · rw [if_pos hc, if_pos hc]; exact h hc
 · rw [if_neg hc, if_neg hc]; exact k hc
theorem le_one {t : Tr -> Option (Res (List Tr))} {t' : Tr -> Option (Res (List Tr))} (ts : List Tr) (h : ∀ x, Le (t x) (t' x)) : Le (match ts with | [x] => t x | _ => none) (match ts with | [x] => t' x | _ => none) := by
 match ts with
 | [] => exact Le.refl _
 | [x] => exact h x
 | _ :: _ :: _ => exact Le.refl _
theorem rd_succ (C : Ctx) : ∀ (f : Nat) (nt : NT) (i : Nat), Le (rd C f nt i) (rd C (f + 1) nt i) := by
 intro f
 induction f with
 | zero => intro nt i r h; cases h
 | succ f ih =>
   intro nt i
   cases nt with
   | rest k left =>
     rw [rd, rd]
     cases opAt k C.l i with
     | none => exact Le.refl _
     | some op => exact le_then (ih _ _) fun ts j => le_one ts fun x => le_ite (fun _ => Le.refl _) fun _ => ih _ _
   | row k => rw [rd, rd]; exact le_ite (fun _ => ih _ _) fun _ => le_then (ih _ _) fun ts j => le_one ts fun x => ih _ _
   | _ =>
     rw [rd, rd]
     repeat' first
       | exact Le.refl _
       | exact ih _ _
       | (refine le_then ?_ fun a j => ?_)
       | (refine le_ite (fun _ => ?_) fun _ => ?_)
theorem rd_add (C : Ctx) (f d : Nat) (nt : NT) (i : Nat) : Le (rd C f nt i) (rd C (f + d) nt i) := by
 induction d with
 | zero => exact Le.refl _
 | succ d ih => exact fun r h => rd_succ C (f + d) nt i r (ih r h)
theorem rd_le (C : Ctx) {f f' : Nat} (hf : f <= f') (nt : NT) (i : Nat) : Le (rd C f nt i) (rd C f' nt i) := by
 obtain ⟨d, rfl⟩ := Nat.exists_eq_add_of_le hf
 exact rd_add C f d nt i
theorem rd_same (C : Ctx) {f f' : Nat} {nt : NT} {i : Nat} {r r' : Res (List Tr)} (h : rd C f nt i = some r) (h' : rd C f' nt i = some r') : r = r' := by
 have h1 := rd_le C (Nat.le_max_left f f') nt i r h
 have h2 := rd_le C (Nat.le_max_right f f') nt i r' h'
 rw [h1] at h2
 exact Option.some.inj h2
/-! ### there is an answer -/
def Mon {α : Type} (X : Nat -> Option (Res α)) : Prop := ∀ f f', f <= f' -> Le (X f) (X f')
def Ex {α : Type} (X : Nat -> Option (Res α)) : Prop := ∃ f r, X f = some r
theorem mon_const {α : Type} (x : Option (Res α)) : Mon fun _ => x := fun _ _ _ => Le.refl _
theorem mon_rd (C : Ctx) (nt : NT) (i : Nat) : Mon fun f => rd C f nt i := fun _ _ h => rd_le C h nt i
theorem mon_then {α β : Type} {X : Nat -> Option (Res α)} {F : Nat -> α -> Nat -> Option (Res β)} (h : Mon X) (k : ∀ a j, Mon fun f => F f a j) : Mon fun f => andThen (X f) (F f) := fun f f' hf => le_then (h f f' hf) fun a j => k a j f f' hf
theorem mon_ite {α : Type} {c : Prop} [Decidable c] {X Y : Nat -> Option (Res α)} (h : c -> Mon X) (k : ¬ c -> Mon Y) : Mon fun f => if c then X f else Y f := fun f f' hf => le_ite (fun hc => h hc f f' hf) (fun hc => k hc f f' hf)
theorem ex_const {α : Type} (r : Res α) : Ex fun _ => some r := ⟨0, r, rfl⟩
theorem ex_ite {α : Type} {c : Prop} [Decidable c] {X Y : Nat -> Option (Res α)} (h : c -> Ex X) (k : ¬ c -> Ex Y) : Ex fun f => if c then X f else Y f := by
 by_cases hc : c
 · simp only [if_pos hc]; exact h hc
 · simp only [if_neg hc]; exact k hc
theorem ex_then {α β : Type} {X : Nat -> Option (Res α)} {F : Nat -> α -> Nat -> Option (Res β)} (hX : Ex X) (mX : Mon X) (mF : ∀ a j, Mon fun f => F f a j) (hF : ∀ f a j, X f = some (.ok a j) -> Ex fun f => F f a j) : Ex fun f => andThen (X f) (F f) := by
 obtain ⟨f0, r0, h0⟩ := hX
 cases r0 with
 | no p => exact ⟨f0, .no p, by simp only [h0]; rfl⟩
 | ok a j =>
   obtain ⟨f1, r1, h1⟩ := hF f0 a j h0
   refine ⟨max f0 f1, r1, ?_⟩
   have e := mX f0 (max f0 f1) (Nat.le_max_left _ _) _ h0
   simp only [e]
   exact mF a j f1 (max f0 f1) (Nat.le_max_right _ _) _ h1
theorem ex_want (C : Ctx) (s : ByteArray) (i : Nat) : Ex fun _ => wantR C s i := ⟨0, _, rfl⟩
theorem ex_name (C : Ctx) (i : Nat) : Ex fun _ => nameR C i := ⟨0, _, rfl⟩
theorem ex_number (C : Ctx) (i : Nat) : Ex fun _ => numberR C i := ⟨0, _, rfl⟩
theorem ex_succ {C : Ctx} {nt : NT} {i : Nat} (h : Ex fun f => rd C (f + 1) nt i) : Ex fun f => rd C f nt i := let ⟨f, r, h⟩ := h; ⟨f + 1, r, h⟩
def rank : NT -> Nat
 | .row k => 2 * (6 - k) + 3
 | .rest _ _ => 0
 | .unary => 2
 | .atom => 1
 | .stmt => 16
 | .stmts => 17
 | .block => 18
 | .prog => 18
def meas (C : Ctx) (nt : NT) (i : Nat) : Nat := (C.l.length - i) * 20 + rank nt
theorem meas_later {C : Ctx} {nt nt' : NT} {i j : Nat} (h : i < j) (hi : i < C.l.length) (hr : rank nt' < 20) : meas C nt' j < meas C nt i := by
 unfold meas
 have : (C.l.length - j) + 1 <= C.l.length - i := by omega
 omega
theorem meas_same {C : Ctx} {nt nt' : NT} {i j : Nat} (h : i <= j) (hr : rank nt' < rank nt) : meas C nt' j < meas C nt i := by
 unfold meas
 have : (C.l.length - j) <= C.l.length - i := by omega
 omega
theorem stmt_in {C : Ctx} {f i j : Nat} {t : Tr} {l : List Tr} (h : rd C f .stmt i = some (.ok (t :: l) j)) : i < C.l.length := by
 rcases Nat.lt_or_ge i C.l.length with h1 | h1
 · exact h1
 · exfalso
   have hn : C.l[i]? = none := List.getElem?_eq_none h1
   cases f with
   | zero => cases h
   | succ f => simp [rd, namedB, comesB, hn] at h
theorem opAt_lt {k : Nat} {l : List Item} {i : Nat} {op : Int} (h : opAt k l i = some op) : i < l.length := by
 unfold opAt at h
 cases hx : l[i]? with
 | none => rw [hx] at h; cases h
 | some x => exact (List.getElem?_eq_some_iff.1 hx).1
theorem row_len (C : Ctx) : ∀ (f : Nat) (nt : NT) (i j : Nat) (ts : List Tr), (match nt with | .row _ | .rest _ _ | .unary | .atom => True | _ => False) -> rd C f nt i = some (.ok ts j) -> ∃ t, ts = [t] := by
 intro f
 induction f with
 | zero => intro nt i j ts _ h; cases h
 | succ f ih =>
   have th : ∀ {α : Type} {x : Option (Res α)} {F : α -> Nat -> Option (Res (List Tr))} {ts : List Tr} {j : Nat}, andThen x F = some (.ok ts j) -> ∃ a k, x = some (.ok a k) /\ F a k = some (.ok ts j) := by
     intro α x F ts j h
     cases x with
     | none => cases h
     | some y => cases y with
       | no p => simp [andThen] at h
       | ok a k => exact ⟨a, k, rfl, h⟩
   intro nt i j ts hnt h
   cases nt with
   | row k =>
     simp only [rd] at h
     split at h
     · exact ih _ _ _ _ trivial h
     · obtain ⟨a, m, h1, h2⟩ := th h
       split at h2
       · exact ih _ _ _ _ trivial h2
       · cases h2
   | rest k left =>
     simp only [rd] at h
     split at h
     · cases h; exact ⟨_, rfl⟩
     · obtain ⟨a, m, h1, h2⟩ := th h
       split at h2
       · split at h2
         · cases h2; exact ⟨_, rfl⟩
         · exact ih _ _ _ _ trivial h2
       · cases h2
   | unary =>
     simp only [rd] at h
     split at h
     · obtain ⟨a, m, h1, h2⟩ := th h; cases h2; exact ⟨_, rfl⟩
     · split at h
       · obtain ⟨a, m, h1, h2⟩ := th h; cases h2; exact ⟨_, rfl⟩
       · exact ih _ _ _ _ trivial h
   | atom =>
     simp only [rd] at h
     split at h
     · cases h; exact ⟨_, rfl⟩
     · split at h
       · cases h; exact ⟨_, rfl⟩
       · split at h
         · obtain ⟨a, m, h1, h2⟩ := th h
           obtain ⟨b, m2, h3, h4⟩ := th h2
           cases h4
           exact ih _ _ _ _ trivial h1
         · split at h
           · split at h
             · obtain ⟨a, m, h1, h2⟩ := th h
               obtain ⟨b, m2, h3, h4⟩ := th h2
               cases h4; exact ⟨_, rfl⟩
             · cases h; exact ⟨_, rfl⟩
           · obtain ⟨a, m, h1, h2⟩ := th h; cases h2; exact ⟨_, rfl⟩
   | stmt => cases hnt
   | stmts => cases hnt
   | block => cases hnt
   | prog => cases hnt
theorem mon_one {ts : List Tr} {X : Nat -> Tr -> Option (Res (List Tr))} (h : ∀ x, Mon fun f => X f x) : Mon fun f => match ts with | [x] => X f x | _ => none := fun f f' hf => le_one ts fun x => h x f f' hf
theorem rd_ends (C : Ctx) : ∀ (N : Nat) (nt : NT) (i : Nat), meas C nt i < N -> Ex fun f => rd C f nt i := by
 intro N
 induction N with
 | zero => intro nt i h; omega
 | succ N ih =>
   intro nt i hN
   have go : ∀ {nt' : NT} {j : Nat}, meas C nt' j < meas C nt i -> Ex fun f => rd C f nt' j := fun h => ih _ _ (by omega)
   have later : ∀ {nt' : NT} {j : Nat}, i < j -> i < C.l.length -> rank nt' < 20 -> Ex fun f => rd C f nt' j := fun h1 h2 h3 => go (meas_later h1 h2 h3)
   have same : ∀ {nt' : NT} {j : Nat}, i <= j -> rank nt' < rank nt -> Ex fun f => rd C f nt' j := fun h1 h2 => go (meas_same h1 h2)
   apply ex_succ
   cases nt with
   | row k =>
     simp only [rd]
     refine ex_ite (fun h => same (Nat.le_refl _) (by simp [rank])) fun h => ?_
     refine ex_then (same (Nat.le_refl _) (by simp [rank]; omega)) (mon_rd C _ _) (fun a j => mon_one fun x => mon_rd C _ _) fun f a j hx => ?_
     obtain ⟨t, rfl⟩ := row_len C f _ _ _ _ trivial hx
     exact same (up_rd C f _ i i (Nat.le_refl _) _ _ hx) (by simp [rank])
   | rest k left =>
     simp only [rd]
     cases hop : opAt k C.l i with
     | none => exact ex_const _
     | some op =>
       have hi := opAt_lt hop
       refine ex_then (later (Nat.lt_succ_self i) hi (by simp [rank]; omega)) (mon_rd C _ _) (fun a j => mon_one fun x => mon_ite (fun _ => mon_const _) fun _ => mon_rd C _ _) fun f a j hx => ?_
       obtain ⟨t, rfl⟩ := row_len C f _ _ _ _ trivial hx
       have := up_rd C f _ (i + 1) (i + 1) (Nat.le_refl _) _ _ hx
       exact ex_ite (fun _ => ex_const _) fun _ => later (by omega) hi (by simp [rank])
   | unary =>
     simp only [rd]
     refine ex_ite (fun h => ex_then (later (Nat.lt_succ_self i) (comes_lt h) (by simp [rank])) (mon_rd C _ _) (fun a j => mon_const _) fun f a j hx => ex_const _) fun _ => ?_
     refine ex_ite (fun h => ex_then (later (Nat.lt_succ_self i) (comes_lt h) (by simp [rank])) (mon_rd C _ _) (fun a j => mon_const _) fun f a j hx => ex_const _) fun _ => ?_
     exact same (Nat.le_refl _) (by simp [rank])
   | atom =>
     simp only [rd]
     refine ex_ite (fun _ => ex_const _) fun _ => ex_ite (fun _ => ex_const _) fun _ => ex_ite (fun h => ?_) fun _ => ex_ite (fun h => ex_ite (fun h2 => ?_) fun _ => ex_const _) fun _ => ?_
     · exact ex_then (later (Nat.lt_succ_self i) (comes_lt h) (by simp [rank])) (mon_rd C _ _) (fun a j => mon_const _) fun f a j hx => ex_then (ex_want ..) (mon_const _) (fun _ _ => mon_const _) fun _ _ _ _ => ex_const _
     · exact ex_then (later (by omega) (named_lt h) (by simp [rank])) (mon_rd C _ _) (fun a j => mon_const _) fun f a j hx => ex_then (ex_want ..) (mon_const _) (fun _ _ => mon_const _) fun _ _ _ _ => ex_const _
     · exact ex_then (ex_number ..) (mon_const _) (fun _ _ => mon_const _) fun _ _ _ _ => ex_const _
   | stmt =>
     simp only [rd]
     refine ex_ite (fun h => ex_ite (fun h2 => ?_) fun _ => ?_) fun _ => ex_ite (fun h => ?_) fun _ => ex_ite (fun h => ?_) fun _ => ex_ite (fun h => ?_) fun _ => ex_ite (fun h => ?_) fun _ => ex_ite (fun h => ?_) fun _ => ex_const _
     · have hi := (by first | exact named_lt h | exact comes_lt h : i < C.l.length)
       refine ex_then (later (by omega) hi (by simp [rank])) (by repeat' first | exact mon_rd C _ _ | exact mon_const _ | (refine mon_then ?_ fun _ _ => ?_) | (refine mon_ite (fun _ => ?_) fun _ => ?_)) (fun _ _ => (by repeat' first | exact mon_rd C _ _ | exact mon_const _ | (refine mon_then ?_ fun _ _ => ?_) | (refine mon_ite (fun _ => ?_) fun _ => ?_))) fun f1 a1 j1 hx1 => ?_
       have hu1 := up_rd C f1 _ (i + 2) (i + 2) (Nat.le_refl _) _ _ hx1
       refine ex_then (ex_want ..) (by repeat' first | exact mon_rd C _ _ | exact mon_const _ | (refine mon_then ?_ fun _ _ => ?_) | (refine mon_ite (fun _ => ?_) fun _ => ?_)) (fun _ _ => (by repeat' first | exact mon_rd C _ _ | exact mon_const _ | (refine mon_then ?_ fun _ _ => ?_) | (refine mon_ite (fun _ => ?_) fun _ => ?_))) fun f2 a2 j2 hx2 => ?_
       have hu2 := up_want (C := C) (Nat.le_refl j1) _ _ hx2
       refine ex_then (ex_want ..) (by repeat' first | exact mon_rd C _ _ | exact mon_const _ | (refine mon_then ?_ fun _ _ => ?_) | (refine mon_ite (fun _ => ?_) fun _ => ?_)) (fun _ _ => (by repeat' first | exact mon_rd C _ _ | exact mon_const _ | (refine mon_then ?_ fun _ _ => ?_) | (refine mon_ite (fun _ => ?_) fun _ => ?_))) fun f3 a3 j3 hx3 => ?_
       have hu3 := up_want (C := C) (Nat.le_refl j2) _ _ hx3
       refine ex_then (later (by omega) hi (by simp [rank])) (by repeat' first | exact mon_rd C _ _ | exact mon_const _ | (refine mon_then ?_ fun _ _ => ?_) | (refine mon_ite (fun _ => ?_) fun _ => ?_)) (fun _ _ => (by repeat' first | exact mon_rd C _ _ | exact mon_const _ | (refine mon_then ?_ fun _ _ => ?_) | (refine mon_ite (fun _ => ?_) fun _ => ?_))) fun f4 a4 j4 hx4 => ?_
       have hu4 := up_rd C f4 _ j3 j3 (Nat.le_refl _) _ _ hx4
       refine ex_then (ex_want ..) (by repeat' first | exact mon_rd C _ _ | exact mon_const _ | (refine mon_then ?_ fun _ _ => ?_) | (refine mon_ite (fun _ => ?_) fun _ => ?_)) (fun _ _ => (by repeat' first | exact mon_rd C _ _ | exact mon_const _ | (refine mon_then ?_ fun _ _ => ?_) | (refine mon_ite (fun _ => ?_) fun _ => ?_))) fun f5 a5 j5 hx5 => ?_
       have hu5 := up_want (C := C) (Nat.le_refl j4) _ _ hx5
       exact ex_const _
     · have hi := (by first | exact named_lt h | exact comes_lt h : i < C.l.length)
       refine ex_then (ex_want ..) (by repeat' first | exact mon_rd C _ _ | exact mon_const _ | (refine mon_then ?_ fun _ _ => ?_) | (refine mon_ite (fun _ => ?_) fun _ => ?_)) (fun _ _ => (by repeat' first | exact mon_rd C _ _ | exact mon_const _ | (refine mon_then ?_ fun _ _ => ?_) | (refine mon_ite (fun _ => ?_) fun _ => ?_))) fun f1 a1 j1 hx1 => ?_
       have hu1 := up_want (C := C) (Nat.le_refl (i + 1)) _ _ hx1
       refine ex_then (later (by omega) hi (by simp [rank])) (by repeat' first | exact mon_rd C _ _ | exact mon_const _ | (refine mon_then ?_ fun _ _ => ?_) | (refine mon_ite (fun _ => ?_) fun _ => ?_)) (fun _ _ => (by repeat' first | exact mon_rd C _ _ | exact mon_const _ | (refine mon_then ?_ fun _ _ => ?_) | (refine mon_ite (fun _ => ?_) fun _ => ?_))) fun f2 a2 j2 hx2 => ?_
       have hu2 := up_rd C f2 _ j1 j1 (Nat.le_refl _) _ _ hx2
       refine ex_then (ex_want ..) (by repeat' first | exact mon_rd C _ _ | exact mon_const _ | (refine mon_then ?_ fun _ _ => ?_) | (refine mon_ite (fun _ => ?_) fun _ => ?_)) (fun _ _ => (by repeat' first | exact mon_rd C _ _ | exact mon_const _ | (refine mon_then ?_ fun _ _ => ?_) | (refine mon_ite (fun _ => ?_) fun _ => ?_))) fun f3 a3 j3 hx3 => ?_
       have hu3 := up_want (C := C) (Nat.le_refl j2) _ _ hx3
       exact ex_const _
     · have hi := (by first | exact named_lt h | exact comes_lt h : i < C.l.length)
       refine ex_then (ex_name ..) (by repeat' first | exact mon_rd C _ _ | exact mon_const _ | (refine mon_then ?_ fun _ _ => ?_) | (refine mon_ite (fun _ => ?_) fun _ => ?_)) (fun _ _ => (by repeat' first | exact mon_rd C _ _ | exact mon_const _ | (refine mon_then ?_ fun _ _ => ?_) | (refine mon_ite (fun _ => ?_) fun _ => ?_))) fun f1 a1 j1 hx1 => ?_
       have hu1 := up_name (C := C) (Nat.le_refl (i + 1)) _ _ hx1
       refine ex_then (ex_want ..) (by repeat' first | exact mon_rd C _ _ | exact mon_const _ | (refine mon_then ?_ fun _ _ => ?_) | (refine mon_ite (fun _ => ?_) fun _ => ?_)) (fun _ _ => (by repeat' first | exact mon_rd C _ _ | exact mon_const _ | (refine mon_then ?_ fun _ _ => ?_) | (refine mon_ite (fun _ => ?_) fun _ => ?_))) fun f2 a2 j2 hx2 => ?_
       have hu2 := up_want (C := C) (Nat.le_refl j1) _ _ hx2
       exact ex_const _
     · have hi := (by first | exact named_lt h | exact comes_lt h : i < C.l.length)
       refine ex_then (later (by omega) hi (by simp [rank])) (by repeat' first | exact mon_rd C _ _ | exact mon_const _ | (refine mon_then ?_ fun _ _ => ?_) | (refine mon_ite (fun _ => ?_) fun _ => ?_)) (fun _ _ => (by repeat' first | exact mon_rd C _ _ | exact mon_const _ | (refine mon_then ?_ fun _ _ => ?_) | (refine mon_ite (fun _ => ?_) fun _ => ?_))) fun f1 a1 j1 hx1 => ?_
       have hu1 := up_rd C f1 _ (i + 1) (i + 1) (Nat.le_refl _) _ _ hx1
       refine ex_then (ex_want ..) (by repeat' first | exact mon_rd C _ _ | exact mon_const _ | (refine mon_then ?_ fun _ _ => ?_) | (refine mon_ite (fun _ => ?_) fun _ => ?_)) (fun _ _ => (by repeat' first | exact mon_rd C _ _ | exact mon_const _ | (refine mon_then ?_ fun _ _ => ?_) | (refine mon_ite (fun _ => ?_) fun _ => ?_))) fun f2 a2 j2 hx2 => ?_
       have hu2 := up_want (C := C) (Nat.le_refl j1) _ _ hx2
       exact ex_const _
     · have hi := (by first | exact named_lt h | exact comes_lt h : i < C.l.length)
       refine ex_then (ex_want ..) (by repeat' first | exact mon_rd C _ _ | exact mon_const _ | (refine mon_then ?_ fun _ _ => ?_) | (refine mon_ite (fun _ => ?_) fun _ => ?_)) (fun _ _ => (by repeat' first | exact mon_rd C _ _ | exact mon_const _ | (refine mon_then ?_ fun _ _ => ?_) | (refine mon_ite (fun _ => ?_) fun _ => ?_))) fun f1 a1 j1 hx1 => ?_
       have hu1 := up_want (C := C) (Nat.le_refl (i + 1)) _ _ hx1
       exact ex_const _
     · have hi := (by first | exact named_lt h | exact comes_lt h : i < C.l.length)
       refine ex_then (later (by omega) hi (by simp [rank])) (by repeat' first | exact mon_rd C _ _ | exact mon_const _ | (refine mon_then ?_ fun _ _ => ?_) | (refine mon_ite (fun _ => ?_) fun _ => ?_)) (fun _ _ => (by repeat' first | exact mon_rd C _ _ | exact mon_const _ | (refine mon_then ?_ fun _ _ => ?_) | (refine mon_ite (fun _ => ?_) fun _ => ?_))) fun f1 a1 j1 hx1 => ?_
       have hu1 := up_rd C f1 _ (i + 1) (i + 1) (Nat.le_refl _) _ _ hx1
       refine ex_then (later (by omega) hi (by simp [rank])) (by repeat' first | exact mon_rd C _ _ | exact mon_const _ | (refine mon_then ?_ fun _ _ => ?_) | (refine mon_ite (fun _ => ?_) fun _ => ?_)) (fun _ _ => (by repeat' first | exact mon_rd C _ _ | exact mon_const _ | (refine mon_then ?_ fun _ _ => ?_) | (refine mon_ite (fun _ => ?_) fun _ => ?_))) fun f2 a2 j2 hx2 => ?_
       have hu2 := up_rd C f2 _ j1 j1 (Nat.le_refl _) _ _ hx2
       refine ex_ite (fun _ => ?_) fun _ => ex_const _
       refine ex_then (later (by omega) hi (by simp [rank])) (by repeat' first | exact mon_rd C _ _ | exact mon_const _ | (refine mon_then ?_ fun _ _ => ?_) | (refine mon_ite (fun _ => ?_) fun _ => ?_)) (fun _ _ => (by repeat' first | exact mon_rd C _ _ | exact mon_const _ | (refine mon_then ?_ fun _ _ => ?_) | (refine mon_ite (fun _ => ?_) fun _ => ?_))) fun f3 a3 j3 hx3 => ?_
       have hu3 := up_rd C f3 _ (j2 + 1) (j2 + 1) (Nat.le_refl _) _ _ hx3
       exact ex_const _
     · have hi := (by first | exact named_lt h | exact comes_lt h : i < C.l.length)
       refine ex_then (later (by omega) hi (by simp [rank])) (by repeat' first | exact mon_rd C _ _ | exact mon_const _ | (refine mon_then ?_ fun _ _ => ?_) | (refine mon_ite (fun _ => ?_) fun _ => ?_)) (fun _ _ => (by repeat' first | exact mon_rd C _ _ | exact mon_const _ | (refine mon_then ?_ fun _ _ => ?_) | (refine mon_ite (fun _ => ?_) fun _ => ?_))) fun f1 a1 j1 hx1 => ?_
       have hu1 := up_rd C f1 _ (i + 1) (i + 1) (Nat.le_refl _) _ _ hx1
       refine ex_then (later (by omega) hi (by simp [rank])) (by repeat' first | exact mon_rd C _ _ | exact mon_const _ | (refine mon_then ?_ fun _ _ => ?_) | (refine mon_ite (fun _ => ?_) fun _ => ?_)) (fun _ _ => (by repeat' first | exact mon_rd C _ _ | exact mon_const _ | (refine mon_then ?_ fun _ _ => ?_) | (refine mon_ite (fun _ => ?_) fun _ => ?_))) fun f2 a2 j2 hx2 => ?_
       have hu2 := up_rd C f2 _ j1 j1 (Nat.le_refl _) _ _ hx2
       exact ex_const _
   | stmts =>
     simp only [rd]
     refine ex_then (same (Nat.le_refl _) (by simp [rank])) (by repeat' first | exact mon_rd C _ _ | exact mon_const _ | (refine mon_then ?_ fun _ _ => ?_) | (refine mon_ite (fun _ => ?_) fun _ => ?_)) (fun _ _ => (by repeat' first | exact mon_rd C _ _ | exact mon_const _ | (refine mon_then ?_ fun _ _ => ?_) | (refine mon_ite (fun _ => ?_) fun _ => ?_))) fun f1 a1 j1 hx1 => ?_
     cases a1 with
     | nil => exact ex_const _
     | cons u l =>
       have h1 := stmt_lt hx1
       have h2 := stmt_in hx1
       simp only [List.isEmpty_cons]
       refine ex_ite (fun h => by cases h) fun _ => ?_
       refine ex_then (later (by omega) h2 (by simp [rank])) (by repeat' first | exact mon_rd C _ _ | exact mon_const _ | (refine mon_then ?_ fun _ _ => ?_) | (refine mon_ite (fun _ => ?_) fun _ => ?_)) (fun _ _ => (by repeat' first | exact mon_rd C _ _ | exact mon_const _ | (refine mon_then ?_ fun _ _ => ?_) | (refine mon_ite (fun _ => ?_) fun _ => ?_))) fun f2 a2 j2 hx2 => ?_
       have hu2 := up_rd C f2 _ j1 j1 (Nat.le_refl _) _ _ hx2
       exact ex_const _
   | block =>
     simp only [rd]
     by_cases hi : i < C.l.length
     · skip
       refine ex_then (ex_want ..) (by repeat' first | exact mon_rd C _ _ | exact mon_const _ | (refine mon_then ?_ fun _ _ => ?_) | (refine mon_ite (fun _ => ?_) fun _ => ?_)) (fun _ _ => (by repeat' first | exact mon_rd C _ _ | exact mon_const _ | (refine mon_then ?_ fun _ _ => ?_) | (refine mon_ite (fun _ => ?_) fun _ => ?_))) fun f1 a1 j1 hx1 => ?_
       have hu1 := up_want (C := C) (Nat.le_refl i) _ _ hx1
       have hj1 : i < j1 := by
         unfold wantR at hx1
         split at hx1
         · cases hx1; omega
         · cases hx1
       refine ex_then (later (by omega) hi (by simp [rank])) (by repeat' first | exact mon_rd C _ _ | exact mon_const _ | (refine mon_then ?_ fun _ _ => ?_) | (refine mon_ite (fun _ => ?_) fun _ => ?_)) (fun _ _ => (by repeat' first | exact mon_rd C _ _ | exact mon_const _ | (refine mon_then ?_ fun _ _ => ?_) | (refine mon_ite (fun _ => ?_) fun _ => ?_))) fun f2 a2 j2 hx2 => ?_
       have hu2 := up_rd C f2 _ j1 j1 (Nat.le_refl _) _ _ hx2
       refine ex_then (ex_want ..) (by repeat' first | exact mon_rd C _ _ | exact mon_const _ | (refine mon_then ?_ fun _ _ => ?_) | (refine mon_ite (fun _ => ?_) fun _ => ?_)) (fun _ _ => (by repeat' first | exact mon_rd C _ _ | exact mon_const _ | (refine mon_then ?_ fun _ _ => ?_) | (refine mon_ite (fun _ => ?_) fun _ => ?_))) fun f3 a3 j3 hx3 => ?_
       have hu3 := up_want (C := C) (Nat.le_refl j2) _ _ hx3
       exact ex_const _
     · have hn : C.l[i]? = none := List.getElem?_eq_none (by omega)
       simp only [wantR, comesB, hn, andThen]
       exact ex_const _
   | prog =>
     simp only [rd]
     refine ex_ite (fun h => ?_) fun _ => ex_ite (fun h => ?_) fun _ => ?_
     · have hi := (by first | exact named_lt h | exact comes_lt h : i < C.l.length)
       refine ex_then (ex_name ..) (by repeat' first | exact mon_rd C _ _ | exact mon_const _ | (refine mon_then ?_ fun _ _ => ?_) | (refine mon_ite (fun _ => ?_) fun _ => ?_)) (fun _ _ => (by repeat' first | exact mon_rd C _ _ | exact mon_const _ | (refine mon_then ?_ fun _ _ => ?_) | (refine mon_ite (fun _ => ?_) fun _ => ?_))) fun f1 a1 j1 hx1 => ?_
       have hu1 := up_name (C := C) (Nat.le_refl (i + 1)) _ _ hx1
       refine ex_then (ex_want ..) (by repeat' first | exact mon_rd C _ _ | exact mon_const _ | (refine mon_then ?_ fun _ _ => ?_) | (refine mon_ite (fun _ => ?_) fun _ => ?_)) (fun _ _ => (by repeat' first | exact mon_rd C _ _ | exact mon_const _ | (refine mon_then ?_ fun _ _ => ?_) | (refine mon_ite (fun _ => ?_) fun _ => ?_))) fun f2 a2 j2 hx2 => ?_
       have hu2 := up_want (C := C) (Nat.le_refl j1) _ _ hx2
       refine ex_then (later (by omega) hi (by simp [rank])) (by repeat' first | exact mon_rd C _ _ | exact mon_const _ | (refine mon_then ?_ fun _ _ => ?_) | (refine mon_ite (fun _ => ?_) fun _ => ?_)) (fun _ _ => (by repeat' first | exact mon_rd C _ _ | exact mon_const _ | (refine mon_then ?_ fun _ _ => ?_) | (refine mon_ite (fun _ => ?_) fun _ => ?_))) fun f3 a3 j3 hx3 => ?_
       have hu3 := up_rd C f3 _ j2 j2 (Nat.le_refl _) _ _ hx3
       exact ex_const _
     · have hi := (by first | exact named_lt h | exact comes_lt h : i < C.l.length)
       refine ex_then (ex_name ..) (by repeat' first | exact mon_rd C _ _ | exact mon_const _ | (refine mon_then ?_ fun _ _ => ?_) | (refine mon_ite (fun _ => ?_) fun _ => ?_)) (fun _ _ => (by repeat' first | exact mon_rd C _ _ | exact mon_const _ | (refine mon_then ?_ fun _ _ => ?_) | (refine mon_ite (fun _ => ?_) fun _ => ?_))) fun f1 a1 j1 hx1 => ?_
       have hu1 := up_name (C := C) (Nat.le_refl (i + 1)) _ _ hx1
       refine ex_then (ex_want ..) (by repeat' first | exact mon_rd C _ _ | exact mon_const _ | (refine mon_then ?_ fun _ _ => ?_) | (refine mon_ite (fun _ => ?_) fun _ => ?_)) (fun _ _ => (by repeat' first | exact mon_rd C _ _ | exact mon_const _ | (refine mon_then ?_ fun _ _ => ?_) | (refine mon_ite (fun _ => ?_) fun _ => ?_))) fun f2 a2 j2 hx2 => ?_
       have hu2 := up_want (C := C) (Nat.le_refl j1) _ _ hx2
       refine ex_then (ex_number ..) (by repeat' first | exact mon_rd C _ _ | exact mon_const _ | (refine mon_then ?_ fun _ _ => ?_) | (refine mon_ite (fun _ => ?_) fun _ => ?_)) (fun _ _ => (by repeat' first | exact mon_rd C _ _ | exact mon_const _ | (refine mon_then ?_ fun _ _ => ?_) | (refine mon_ite (fun _ => ?_) fun _ => ?_))) fun f3 a3 j3 hx3 => ?_
       have hu3 := up_number (C := C) (Nat.le_refl j2) _ _ hx3
       refine ex_then (ex_want ..) (by repeat' first | exact mon_rd C _ _ | exact mon_const _ | (refine mon_then ?_ fun _ _ => ?_) | (refine mon_ite (fun _ => ?_) fun _ => ?_)) (fun _ _ => (by repeat' first | exact mon_rd C _ _ | exact mon_const _ | (refine mon_then ?_ fun _ _ => ?_) | (refine mon_ite (fun _ => ?_) fun _ => ?_))) fun f4 a4 j4 hx4 => ?_
       have hu4 := up_want (C := C) (Nat.le_refl j3) _ _ hx4
       refine ex_then (ex_want ..) (by repeat' first | exact mon_rd C _ _ | exact mon_const _ | (refine mon_then ?_ fun _ _ => ?_) | (refine mon_ite (fun _ => ?_) fun _ => ?_)) (fun _ _ => (by repeat' first | exact mon_rd C _ _ | exact mon_const _ | (refine mon_then ?_ fun _ _ => ?_) | (refine mon_ite (fun _ => ?_) fun _ => ?_))) fun f5 a5 j5 hx5 => ?_
       have hu5 := up_want (C := C) (Nat.le_refl j4) _ _ hx5
       refine ex_then (later (by omega) hi (by simp [rank])) (by repeat' first | exact mon_rd C _ _ | exact mon_const _ | (refine mon_then ?_ fun _ _ => ?_) | (refine mon_ite (fun _ => ?_) fun _ => ?_)) (fun _ _ => (by repeat' first | exact mon_rd C _ _ | exact mon_const _ | (refine mon_then ?_ fun _ _ => ?_) | (refine mon_ite (fun _ => ?_) fun _ => ?_))) fun f6 a6 j6 hx6 => ?_
       have hu6 := up_rd C f6 _ j5 j5 (Nat.le_refl _) _ _ hx6
       exact ex_const _
     · refine ex_then (same (Nat.le_refl _) (by simp [rank])) (by repeat' first | exact mon_rd C _ _ | exact mon_const _ | (refine mon_then ?_ fun _ _ => ?_) | (refine mon_ite (fun _ => ?_) fun _ => ?_)) (fun _ _ => (by repeat' first | exact mon_rd C _ _ | exact mon_const _ | (refine mon_then ?_ fun _ _ => ?_) | (refine mon_ite (fun _ => ?_) fun _ => ?_))) fun f1 a1 j1 hx1 => ?_
       exact ex_ite (fun _ => ex_const _) fun _ => ex_const _
end Go.Proofs.YtonmcakdofbjiaaGreatDoor
namespace Go.Proofs.YtonmcakdofbjiaaGreatDoor
def nodes (ts : List Tr) : Nat := (flatTs ts 0).length
theorem nodes_nil : nodes [] = 0 := rfl
theorem nodes_append (a b : List Tr) : nodes (a ++ b) = nodes a + nodes b := by simp [nodes, flatTs_append]
theorem nodes_cons (t : Tr) (b : List Tr) : nodes (t :: b) = nodes [t] + nodes b := nodes_append [t] b
theorem nodes_leaf (k : Int) (n : ByteArray) (x o a : Int) (ks : List Tr) : nodes [leafT k n x o a ks] = 1 + nodes ks := by
 simp only [nodes, flatTs, leafT, flatT, List.length_append, List.length_cons, List.length_nil, flatTs_length (0 + 1) 0 ks]
 omega
def Cn (i m : Nat) (x : Option (Res (List Tr))) : Prop := ∀ ts j, x = some (.ok ts j) -> i + nodes ts <= j + m
def lefts : NT -> Nat
 | .rest _ left => nodes [left]
 | _ => 0
theorem then_ok {α β : Type} {x : Option (Res α)} {F : α -> Nat -> Option (Res β)} {b : β} {j : Nat} (h : andThen x F = some (.ok b j)) : ∃ a k, x = some (.ok a k) /\ F a k = some (.ok b j) := by
 cases x with
 | none => cases h
 | some y => cases y with
   | no p => simp [andThen] at h
   | ok a k => exact ⟨a, k, rfl, h⟩
theorem want_ok {C : Ctx} {s : ByteArray} {i k : Nat} {u : Unit} (h : wantR C s i = some (.ok u k)) : k = i + 1 := by
 unfold wantR at h; split at h
 · cases h; rfl
 · cases h
theorem name_ok {C : Ctx} {i k : Nat} {u : ByteArray} (h : nameR C i = some (.ok u k)) : k = i + 1 := by
 unfold nameR at h; split at h
 · cases h; rfl
 · cases h
theorem number_ok {C : Ctx} {i k : Nat} {u : Int} (h : numberR C i = some (.ok u k)) : k = i + 1 := by
 unfold numberR at h; split at h
 · cases h; rfl
 · cases h
theorem cn_then {α : Type} {i m : Nat} {x : Option (Res α)} {F : α -> Nat -> Option (Res (List Tr))} (k : ∀ a j, x = some (.ok a j) -> Cn i m (F a j)) : Cn i m (andThen x F) := by
 intro ts j h
 obtain ⟨a, k', h1, h2⟩ := then_ok h
 exact k a k' h1 ts j h2
theorem cn_ok {i m k : Nat} {ts : List Tr} (h : i + nodes ts <= k + m) : Cn i m (some (.ok ts k)) := fun _ _ e => by cases e; exact h
theorem cn_no {i m : Nat} {p : Int} : Cn i m (some (.no p)) := fun _ _ e => by cases e
theorem cn_none {i m : Nat} : Cn i m none := fun _ _ e => by cases e
theorem rd_nodes (C : Ctx) : ∀ (f : Nat) (nt : NT) (i : Nat), Cn i (lefts nt) (rd C f nt i) := by
 intro f
 induction f with
 | zero => intro nt i; exact cn_none
 | succ f ih =>
   intro nt i
   cases nt with
   | row k =>
     simp only [rd]
     split
     · exact ih .unary i
     · refine cn_then fun a j h => ?_
       have h1 := ih _ _ _ _ h
       split
       · intro ts m h2
         have h3 := ih _ _ _ _ h2
         simp only [lefts] at h1 h3 ⊢
         omega
       · exact cn_none
   | rest k left =>
     simp only [rd]
     split
     · exact cn_ok (by simp [lefts])
     · refine cn_then fun a j h => ?_
       have h1 := ih _ _ _ _ h
       simp only [lefts] at h1
       split
       · have e2 := nodes_cons left
         split
         · refine cn_ok ?_
           rw [nodes_leaf, e2]
           simp only [lefts]
           omega
         · intro ts m h2
           have h3 : _ + nodes ts <= m + nodes [_] := ih _ _ _ _ h2
           rw [nodes_leaf, e2] at h3
           show i + nodes ts <= m + nodes [left]
           omega
       · exact cn_none
   | _ =>
     simp only [rd]
     repeat' first
       | exact cn_none
       | exact cn_no
       | (refine cn_then fun _ _ h => ?_; first | (have h1 := want_ok h; clear h) | (have h1 := name_ok h; clear h) | (have h1 := number_ok h; clear h) | (have h1 := ih _ _ _ _ h; simp only [lefts] at h1; clear h))
       | (exact ih _ _)
       | (refine cn_ok ?_; simp only [lefts, nodes_leaf, nodes_append, nodes_nil]; omega)
       | (refine cn_ok ?_; rw [nodes_cons, nodes_leaf]; simp only [lefts, nodes_nil]; omega)
       | split
end Go.Proofs.YtonmcakdofbjiaaGreatDoor
namespace Go.Proofs.YtonmcakdofbjiaaGreatDoor
open Go.RowKit Go.Bsd Go.Conc
def chAct (s : ByteArray) (c : Nat) : Act :=
 { tmps := #[.string s, undef, .slice none 0 0, .int .i64 0, .int .i64 0, .chan (some c), undef, undef, undef, .string s, .int .i64 s.size, .bool false, .chan (some c), undef, undef, undef, undef, undef, undef, undef, undef, undef, undef, undef, undef, undef, undef, undef, undef, undef, undef, undef, undef, undef, undef, undef], defers := [] }
theorem tkGo_is : ∃ id, tkGo = .region id (regOps tkGo) false /\ (regOps tkGo).size = 3 := ⟨_, rfl, rfl⟩
def goOper : Oper := { dst := none, op := Op.go { callee := Callee.value (Operand.func 77), args := #[Operand.tmp 13, Operand.tmp 14], argTypes := #[9, 188] }, type := 0, pos := "lex.go:116", after := #[{ on := 0, ground := Ground.data }, { on := 1, ground := Ground.data }], guard := none }
theorem go_spawn (s : ByteArray) (c : Nat) (cs : List Frame) (w : World) :
   stepG Tryz.prog true (Go.Conc.G ((base0 40).at (goAct s c) [.inRegion (regOps tkGo) [2], .code tk4]) cs) w = .spawn (Go.Conc.G (frc s c) cs) (born Tryz.prog (cutCall s c)) w #[] := by
 have hr : (execOp (goAct s c).eval goOper).runT Tryz.prog w #[] = (.ok (.spawn (cutCall s c)) w, #[]) := by
   simp [execOp, goOper, resolve, evalT, goAct, cutCall, Sem.runT, Deferred.ofValue, Act.eval]
 have he1 : (execOp (goAct s c).eval goOper).run Tryz.prog w = .ok (.spawn (cutCall s c)) w := by rw [<- Sem.runT_fst (es := #[]), hr]
 have he2 : (execOp (goAct s c).eval goOper).events Tryz.prog w #[] = #[] := by unfold Sem.events; rw [hr]
 have := stepG_spawn (P := Tryz.prog) (main := true) (b := base0 40) (a := goAct s c) (k := [.code tk4]) (cs := cs) (w := w) (ops := regOps tkGo) (i := 2) (rest := []) (o := goOper) (d := cutCall s c) (w' := w) rfl rfl (by simp [base0]) he1 rfl
 rw [listed_none he2] at this
 exact this
theorem xc_free (s : ByteArray) (f : FuncId) (c : Nat) : TapeFree (Xc s f c) := fun g w T d ⟨a, b, sl, h1, h2, h3⟩ =>
 let ⟨x0, x1, x2, x3, h⟩ := h3.bad
 ⟨a, b, sl, h1, h2, h3.chan, h3.own, ⟨x0, x1, x2, x3, h.c0, h.c1, h.c2, h.c3, h.c4, h.c5, h.f0, h.f1, h.f2, h.f3, h.f4, h.f5⟩, h3.lt, h3.ltc⟩
theorem xc_recv (s : ByteArray) (f : FuncId) (c : Nat) : ∀ g v, Xc s f c g v -> AtRecv Tryz.prog f c ((pieces s).length + 1) g v := by
 rintro g v ⟨a, b, sl, rfl, h2, h3⟩
 refine ⟨_, zeroItem, true, rfl, rfl, fun T d => recv_comm s c b sl a _ h2 _, ?_⟩
 have := h3.chan
 rw [List.drop_length] at this
 exact ⟨_, _, this⟩
theorem tame_recvK (a : Act) : TameF ((base0 40).at a recvK) := by
 intro i hi
 have : i ∈ recvK := hi
 simp only [recvK, loopK, List.mem_cons, List.not_mem_nil, or_false] at this
 rcases this with rfl | rfl | rfl | rfl | rfl <;> trivial
theorem tok_pipe (hP : TameProg Tryz.prog) (s : ByteArray) (hs : ¬ 8192 < s.size) (w0 : World) (hv : VarsOk w0) (cs : List Frame) :
   Bes Tryz.prog (Leav Tryz.prog 40 (TokPost s w0) cs) (Go.Conc.G ((base0 40).at (goAct s w0.heap.size) [.inRegion (regOps tkGo) [2], .code tk4]) cs) (w0.alloc (.chan 16 #[] false 0 0 false)) := by
 intro hr ht
 have hvW : VarsOk (w0.alloc (.chan 16 #[] false 0 0 false)) := by
   have g := World.grownBy_alloc w0 (.chan 16 #[] false 0 0 false) none
   exact hv.kin ⟨rfl, rfl, g.size, fun k hk => g.block k hk (by simp)⟩
 have hsz := hv.size
 have h9z : 9 < w0.heap.size := by obtain ⟨_, _, _, _, q⟩ := hv.far 9 (.inr rfl); exact lt_of_some q
 obtain ⟨o8, o9, ⟨t8, p8, h8⟩, ⟨t9, p9, h9⟩, hz9, hGW⟩ := hvW.stands
 have hcl : w0.heap.size < (w0.alloc (.chan 16 #[] false 0 0 false)).heap.size := by simp
 have hclp : w0.heap.size < (farW (w0.alloc (.chan 16 #[] false 0 0 false)) o8 o9).heap.size := by rw [farW_size]; exact hcl
 have hlen : ((pieces s).map Item.v).length = (pieces s).length := List.length_map _
 have hpl := pieces_length s
 have hMp := cut_lone s 40 w0.heap.size (farW (w0.alloc (.chan 16 #[] false 0 0 false)) o8 o9) (by omega) hclp _ _ h8 h9 ⟨_, _, rfl⟩ ⟨_, _, rfl⟩ (by omega) (by omega)
 have hMc := tok_lone s 40 w0.heap.size (w0.alloc (.chan 16 #[] false 0 0 false)) (by omega) hcl
 rw [<- hlen] at hMp hMc
 refine (bes_pipe (P := Tryz.prog) (f := 40) (c := w0.heap.size) (cap := 16) (L := (pieces s).map Item.v) (l0 := cs) (Gb := fun y => y = 5 \/ y = 6 \/ y = 7 \/ y = 8 \/ y = 9) (W := w0.alloc (.chan 16 #[] false 0 0 false)) (Wp := farW (w0.alloc (.chan 16 #[] false 0 0 false)) o8 o9) (Xc := Xc s 40 w0.heap.size) (Xp := Xp s 40 w0.heap.size (farW (w0.alloc (.chan 16 #[] false 0 0 false)) o8 o9))
   (ts := #[188]) (ty := 0) (cn := #[false]) hP prod_sim nobody_sim ?_ rfl (fun T d => go_spawn s _ cs _) (cut_pre s _) (frel_prod s _ _) rfl rfl ?_ (frel_cons s _) rfl ?_ ht.2 (by decide) (heap_alloc_new w0 _) ?_ (fun g hg => by simpa [inG, prodG] using hg) hGW (farW_size _ _ _) rfl (by omega) hMp hMc (xp_free _ _ _ _) (xc_free _ _ _) ?_ ?_ ?_ ?_).bind ?_ hr ht
 · intro x hx
   obtain ⟨y, _, rfl⟩ := List.mem_map.1 hx
   exact plainV_item y
 · intro i hi
   have : i = .code cutRest := List.mem_singleton.1 hi
   subst this
   trivial
 · intro i hi
   have hi : i ∈ [.inRegion (regOps tkGo) [], .code tk4] := hi
   simp only [List.mem_cons, List.not_mem_nil, or_false] at hi
   rcases hi with rfl | rfl <;> trivial
 · intro g hg
   exact absurd hg (by simp [inG])
 · intro g v hx
   have := xp_close s 40 w0.heap.size _ g v hx
   exact this
 · rintro g v ⟨fr, h1, h2, h3, h4, h5, h6⟩ y hy hyc
   exact h5 y (by rw [farW_size]; omega) hyc
 · intro g v hx
   rw [hlen]
   exact xc_recv s _ _ g v hx
 · rintro g v ⟨a, b, sl, rfl, _⟩
   exact tame_recvK a
 · rintro g w1 ⟨ρ, fr, fr', z, z', ok, v, hE⟩
   exact tok_tail hP s 40 w0.heap.size w0 _ cs hs rfl ⟨_, rfl⟩ hE
theorem tok_go (hP : TameProg Tryz.prog) (s : ByteArray) (hs : ¬ 8192 < s.size) (w0 : World) (hv : VarsOk w0) :
   tailB Tryz.prog 40 (TokPost s w0) (seqR tk2) (chAct s w0.heap.size) (w0.alloc (.chan 16 #[] false 0 0 false)) := by
 intro cs
 have e : seqR tk2 = .seq tkGo tk4 := rfl
 rw [e]
 obtain ⟨id, hid, h3⟩ := tkGo_is
 refine head1 hP (fun w => step_seq) ?_
 have hreg : ∀ w, step Tryz.prog (lone ((base0 40).at (chAct s w0.heap.size) [.code tkGo, .code tk4]) cs w) = .next (lone ((base0 40).at (chAct s w0.heap.size) [.inRegion (regOps tkGo) [0, 1, 2], .code tk4]) cs w) := fun w => by
   have := step_region (P := Tryz.prog) (b := base0 40) (a := chAct s w0.heap.size) (k := [.code tk4]) (cs := cs) (w := w) (ops := regOps tkGo) (id := id)
   rw [<- hid, h3] at this
   exact this
 refine head1 hP hreg ?_
 have m1 : ∀ w, step Tryz.prog (lone ((base0 40).at (chAct s w0.heap.size) [.inRegion (regOps tkGo) [0, 1, 2], .code tk4]) cs w) = _ := fun w =>
   lone_value (P := Tryz.prog) (b := base0 40) (a := chAct s w0.heap.size) (k := [.code tk4]) (cs := cs) (ops := regOps tkGo) (i := 0) (rest := [1, 2]) (w := w) (w' := w) (v := .string s)
     (o := { dst := some 13, op := Op.move (Operand.tmp 0), type := 9, pos := "lex.go:116", after := #[], guard := none }) rfl rfl (by simp [execOp, evalT, chAct])
 refine head1 hP m1 ?_
 have m2 : ∀ w, step Tryz.prog (lone ((base0 40).at ((chAct s w0.heap.size).put (some 13) (.string s)) [.inRegion (regOps tkGo) [1, 2], .code tk4]) cs w) = _ := fun w =>
   lone_value (P := Tryz.prog) (b := base0 40) (a := (chAct s w0.heap.size).put (some 13) (.string s)) (k := [.code tk4]) (cs := cs) (ops := regOps tkGo) (i := 1) (rest := [2]) (w := w) (w' := w) (v := .chan (some w0.heap.size))
     (o := { dst := some 14, op := Op.move (Operand.tmp 5), type := 136, pos := "lex.go:116", after := #[], guard := none }) rfl rfl (by simp [execOp, evalT, chAct, Act.put])
 refine head1 hP m2 ?_
 exact tok_pipe hP s hs w0 hv cs
theorem make16 (w : World) : (Instr.makeChan 136 (.int .i64 16)).run Tryz.prog w = .ok (.chan (some w.heap.size)) (w.alloc (.chan 16 #[] false 0 0 false)) := by
 obtain ⟨i0, hi, hz0, hz1, hz2⟩ := info_parts info142
 simp [Instr.makeChan, run_underlying u136, typeInfo, hi, hz2, go_sem]
theorem tokens_any (hP : TameProg Tryz.prog) (s : ByteArray) (hs : s.size <= 9223372036854775807) (w : World) (hv : VarsOk w) : CallsB Tryz.prog 40 #[.string s] w (TokPost s w) := by
 refine callsB_of_tailB Tryz.func40 (c := tk0) rfl ?_
 have e0 : tk0 = .seq (seqL tk0) (.seq (seqL (seqR tk0)) (.seq (seqL tk2) (seqR tk2))) := rfl
 rw [e0]
 have ha : (#[Value.string s] ++ Array.replicate (Tryz.f40.ntmps - #[Value.string s].size) undef) = #[.string s, undef, undef, undef, undef, undef, undef, undef, undef, undef, undef, undef, undef, undef, undef, undef, undef, undef, undef, undef, undef, undef, undef, undef, undef, undef, undef, undef, undef, undef, undef, undef, undef, undef, undef, undef] := by
   simp only [Tryz.ntmps40]
   simp [Array.replicate_succ]
 rw [ha]
 have hR : ∀ w', ¬ TokPost s w .outgrown w' := fun w' h => h
 refine tailB_seq hP Tryz.func40 hR (wpB_lift hP fun T d => ?_)
 generalize hB : bodyPost Tryz.prog Tryz.f40 (TokPost s w) = B
 generalize hY : (Code.seq (seqL (seqR tk0)) (.seq (seqL tk2) (seqR tk2))) = Y
 simp only [seqL, tk0, Tryz.f40, Option.getD_some]
 go_wp2
 subst hY
 refine tailB_seq hP Tryz.func40 hR (wpB_lift hP fun T d => ?_)
 subst hB
 generalize hB : bodyPost Tryz.prog Tryz.f40 (TokPost s w) = B
 have HB := Lib.hid hB
 clear hB
 generalize hY : (Code.seq (seqL tk2) (seqR tk2)) = Y
 simp only [seqL, seqR, tk0, Tryz.f40, Option.getD_some]
 have HV := Lib.hid hv
 clear hv
 by_cases hlen : 8192 < s.size
 · have hq : decide ((8192 : Int) < ↑s.size) = true := by simp; omega
   have HL := Lib.hid hlen
   clear hlen
   go_wp2
   rw [<- HB.out]
   refine ⟨rfl, _, res40 _ _ _ _ rfl rfl rfl _, ⟨rfl, rfl, Nat.le_refl _, fun _ _ => rfl⟩, ?_⟩
   unfold TokRes
   rw [if_pos HL.out]
   rfl
 · have hq : decide ((8192 : Int) < ↑s.size) = false := by simp; omega
   have HL := Lib.hid hlen
   clear hlen
   go_wp2
   subst hY
   refine tailB_seq hP Tryz.func40 hR (wpB_lift hP fun T2 d2 => ?_)
   rw [show re (re w T d) T2 d2 = re w T2 d2 from rfl]
   have hgo := tok_go hP s HL.out w HV.out
   have HGO := Lib.hid hgo
   clear hgo
   rw [HB.out]
   generalize hX : seqR tk2 = X at HGO ⊢
   clear hX
   simp only [seqL, seqR, tk2, tk0, Tryz.f40, Option.getD_some]
   have hm := make16 (re w T2 d2)
   go_wp2
   exact HGO.out
end Go.Proofs.YtonmcakdofbjiaaGreatDoor
namespace Go.Proofs.YtonmcakdofbjiaaGreatDoor
open Go.RowKit Go.Bsd
inductive POut where
 | tree (l : List Nd)
 | fault (kind at_ : Int)
def ParRes (te : TypeId) (pe : Value) (w : World) (o : POut) (v : Value) (w' : World) : Prop := match o with
 | .tree l => ∃ sl, v = .tuple #[sl, .nilIface] /\ w'.ownsRow w.heap.size 50 6 sl l.length (ndCells l)
 | .fault k p => ∃ q, v = .tuple #[.slice none 0 0, .iface 71 (.pointer (some ⟨q, 0, none⟩))] /\ w.heap.size <= q /\ w'.heap[q]? = some (.cells #[.int .i64 k, .int .i64 p, .iface te pe] 73 (0, 0))
def ParPost (te : TypeId) (pe : Value) (w : World) (o : POut) : Ending -> World -> Prop
 | .returned v, w' => Kin w w' /\ ParRes te pe w o v w'
 | _, _ => False
noncomputable def pk0 : Code := (Tryz.f14.body.getD .skip)
noncomputable def pk2 : Code := seqR (seqR pk0)
theorem res14 (a : Array Value) (n0 : Nat) (W : World) (b : Option Addr) (n cap : Nat) (y : Value) (h2 : a.getD 2 undef = .pointer (some ⟨n0, 0, none⟩)) (h3 : a.getD 3 undef = .pointer (some ⟨n0 + 1, 0, none⟩)) (c2 : W.cell? ⟨n0, 0, none⟩ = some (.slice b n cap)) (c3 : W.cell? ⟨n0 + 1, 0, none⟩ = some y) (hy : y = .nilIface \/ ∃ t v, y = .iface t v) :
   (results Tryz.f14 a).run Tryz.prog W = .ok (.tuple #[.slice b n cap, y]) W := by
 rw [Array.getD_eq_getD_getElem?] at h2 h3
 rcases hy with rfl | ⟨t, v, rfl⟩
 · simp only [results, Tryz.f14]
   simp [go_sem, h2, h3, c2, c3]
 · simp only [results, Tryz.f14]
   simp [go_sem, h2, h3, c2, c3]
theorem parse_bad (s : ByteArray) (te : TypeId) (pe : Value) (w w1 : World) (n0 : Nat) (sl : Value) (kd pl : Int) (hkd : kd ≠ 0) (hn : n0 = w.heap.size) (hk : Kin w w1) (c2 : w1.cell? ⟨n0, 0, none⟩ = some (.slice none 0 0)) (c3 : w1.cell? ⟨n0 + 1, 0, none⟩ = some .nilIface) (f2 : w1.frozen? ⟨n0, 0, none⟩ = false) (f3 : w1.frozen? ⟨n0 + 1, 0, none⟩ = false) (hl : n0 + 1 < w1.heap.size) (ce : w1.cell? ⟨0, 0, none⟩ = some (.iface te pe)) :
   pk2.wp Tryz.prog (bodyPostD Tryz.prog Tryz.f14 (ParPost te pe w (.fault kd pl))) { tmps := #[.string s, undef, .pointer (some ⟨n0, 0, none⟩), .pointer (some ⟨n0 + 1, 0, none⟩), sl, .int .i64 kd, .int .i64 pl, undef, undef, undef, undef, undef, .tuple #[sl, .int .i64 kd, .int .i64 pl], .string s, .tuple #[sl, .int .i64 kd, .int .i64 pl], sl, .int .i64 kd, .int .i64 pl, undef, undef, undef, undef, undef, undef, undef, undef, undef, undef, undef, undef, undef, undef, undef, undef, undef, undef, undef, undef, undef, undef, undef, undef, undef, undef, undef, undef, undef, undef, undef, undef, undef, undef, undef, undef, undef, undef, undef, undef, undef, undef, undef, undef, undef, undef, undef], defers := [] } w1 := by
 have HK := Lib.hid hk
 have HN := Lib.hid hn
 clear hk hn
 have k1 : (kd == 0) = false := by simp [hkd]
 have k2 : (kd != 0) = true := by simp [hkd]
 clear hkd
 have hl0 : n0 < w1.heap.size := by omega
 have hne0 : ¬ n0 = w1.heap.size := by omega
 have hne1 : ¬ n0 + 1 = w1.heap.size := by omega
 generalize hQ : bodyPostD Tryz.prog Tryz.f14 (ParPost te pe w (.fault kd pl)) = Q
 have HQ := Lib.hid hQ
 clear hQ
 simp only [pk2, pk0, seqR, Tryz.f14, Option.getD_some]
 go_wp2_with (go_at_call 41; refine (refused_any kd pl te pe _ ce).mono ?_; rintro e w' ⟨rfl, rfl⟩)
 rw [<- HQ.out]
 have p2 : ((w1.setCell ⟨n0, 0, none⟩ (.slice none 0 0)).setCell ⟨n0 + 1, 0, none⟩ (.iface 71 (.pointer (some ⟨w1.heap.size, 0, none⟩)))).cell? ⟨n0, 0, none⟩ = some (.slice none 0 0) := by simp [go_sem, c2]
 have p3 : ((w1.setCell ⟨n0, 0, none⟩ (.slice none 0 0)).setCell ⟨n0 + 1, 0, none⟩ (.iface 71 (.pointer (some ⟨w1.heap.size, 0, none⟩)))).cell? ⟨n0 + 1, 0, none⟩ = some (.iface 71 (.pointer (some ⟨w1.heap.size, 0, none⟩))) := by simp [go_sem, c3]
 have q2 : (((w1.setCell ⟨n0, 0, none⟩ (.slice none 0 0)).setCell ⟨n0 + 1, 0, none⟩ (.iface 71 (.pointer (some ⟨w1.heap.size, 0, none⟩)))).alloc (Obj.cells #[Value.int IntKind.i64 kd, Value.int IntKind.i64 pl, Value.iface te pe] 73)).cell? ⟨n0, 0, none⟩ = some (.slice none 0 0) := (World.grownBy_alloc _ _ none).cell p2 (by simp)
 have q3 : (((w1.setCell ⟨n0, 0, none⟩ (.slice none 0 0)).setCell ⟨n0 + 1, 0, none⟩ (.iface 71 (.pointer (some ⟨w1.heap.size, 0, none⟩)))).alloc (Obj.cells #[Value.int IntKind.i64 kd, Value.int IntKind.i64 pl, Value.iface te pe] 73)).cell? ⟨n0 + 1, 0, none⟩ = some (.iface 71 (.pointer (some ⟨w1.heap.size, 0, none⟩))) := (World.grownBy_alloc _ _ none).cell p3 (by simp)
 refine ⟨_, res14 _ n0 _ none 0 0 _ rfl rfl q2 q3 (.inr ⟨_, _, rfl⟩), ?_, w1.heap.size, rfl, HK.out.size, ?_⟩
 · have hk := HK.out
   have hn := HN.out
   have g1 := grown_set w1 n0 0 (.slice none 0 0)
   have g2 := grown_set (w1.setCell ⟨n0, 0, none⟩ (.slice none 0 0)) (n0 + 1) 0 (.iface 71 (.pointer (some ⟨w1.heap.size, 0, none⟩)))
   have g3 := World.grownBy_alloc ((w1.setCell ⟨n0, 0, none⟩ (.slice none 0 0)).setCell ⟨n0 + 1, 0, none⟩ (.iface 71 (.pointer (some ⟨w1.heap.size, 0, none⟩)))) (Obj.cells #[Value.int IntKind.i64 kd, Value.int IntKind.i64 pl, Value.iface te pe] 73) none
   have s0 := hk.size
   have s1 := g1.size
   have s2 := g2.size
   exact ⟨hk.os, hk.out, Nat.le_trans s0 (Nat.le_trans s1 (Nat.le_trans s2 g3.size)), fun k hkk => (g3.block k (by omega) (by simp)).trans ((g2.block k (by omega) (by simp; omega)).trans ((g1.block k (by omega) (by simp; omega)).trans (hk.block k hkk)))⟩
 · have := heap_alloc_new ((w1.setCell ⟨n0, 0, none⟩ (.slice none 0 0)).setCell ⟨n0 + 1, 0, none⟩ (.iface 71 (.pointer (some ⟨w1.heap.size, 0, none⟩)))) (Obj.cells #[Value.int IntKind.i64 kd, Value.int IntKind.i64 pl, Value.iface te pe] 73)
   simpa using this
end Go.Proofs.YtonmcakdofbjiaaGreatDoor
namespace Go.Proofs.YtonmcakdofbjiaaGreatDoor
open Go.RowKit Go.Bsd
theorem flat_get {L : List Item} {j : Nat} {t : Item} (h : L[j]? = some t) (k : Nat) (hk : k < 4) : (flatToks L)[j * 4 + k]? = (tokCells t)[k]? := by
 induction L generalizing j with
 | nil => simp at h
 | cons x l ih =>
   have e : flatToks (x :: l) = tokCells x ++ flatToks l := by simp [flatToks]
   have hl : (tokCells x).length = 4 := rfl
   rw [e]
   cases j with
   | zero =>
     simp at h
     subst h
     rw [List.getElem?_append_left (by rw [hl]; omega)]
     congr 1
     omega
   | succ j =>
     simp at h
     rw [List.getElem?_append_right (by rw [hl]; omega), hl, show (j + 1) * 4 + k - 4 = j * 4 + k from by omega]
     exact ih h
def blockOf : Value -> Nat
 | .slice (some a) _ _ => a.block
 | _ => 0
def ctxOf (s : ByteArray) (te : TypeId) (pe : Value) (r : Nat) (sl : Value) : Ctx := ⟨goodOf (pieces s), s.size, te, pe, r, blockOf sl⟩
theorem rd_start (s : ByteArray) (te : TypeId) (pe : Value) (sl : Value) (B : Nat) (w1 : World) (hown : w1.ownsRow B 140 4 sl (goodOf (pieces s)).length (flatToks (goodOf (pieces s)))) (hL : (goodOf (pieces s)).length <= 8193) (he : w1.cell? ⟨0, 0, none⟩ = some (.iface te pe)) :
   Rd (ctxOf s te pe w1.heap.size sl) 0 (w1.alloc (.cells #[sl, .int .i64 0, .int .i64 s.size] 86)) := by
 have h0 : 0 < w1.heap.size := World.block_lt_of_cell? w1 ⟨0, 0, none⟩ he
 have c0 : (w1.alloc (.cells #[sl, .int .i64 0, .int .i64 s.size] 86)).cell? ⟨w1.heap.size, 0, none⟩ = some sl := by simp [go_sem]
 have hkeep : ∀ {n o : Nat} {v : Value}, w1.cell? ⟨n, o, none⟩ = some v -> (w1.alloc (.cells #[sl, .int .i64 0, .int .i64 s.size] 86)).cell? ⟨n, o, none⟩ = some v := fun h => (World.grownBy_alloc w1 _ none).cell h (by simp)
 rcases hown.2 with ⟨rfl, hn⟩ | ⟨g, cap, cur, rfl, hb, hg, hn, hm, hsz, htake⟩
 · have hnil : goodOf (pieces s) = [] := List.eq_nil_of_length_eq_zero hn
   refine ⟨⟨none, 0, 0, by refine c0.trans ?_; simp [ctxOf, hnil], fun h => absurd hnil h, by simp [ctxOf, hnil], ⟨?_, ?_, ?_, ?_⟩, fun h => absurd hnil h⟩, by simp [go_sem, ctxOf], by simp [go_sem, ctxOf], by simp [go_sem, ctxOf], Nat.zero_le _, hL, hkeep he, h0, fun b n cap hb hne => absurd hnil hne⟩ <;>
     (intro j t hj; simp [ctxOf, hnil] at hj)
 · have cells : ∀ (j : Nat) (t : Item), (goodOf (pieces s))[j]? = some t -> ∀ k v, k < 4 -> (tokCells t)[k]? = some v -> (w1.alloc (.cells #[.slice (some ⟨g, 0, none⟩) (goodOf (pieces s)).length cap, .int .i64 0, .int .i64 s.size] 86)).cell? ⟨g, j * 4 + k, none⟩ = some v := by
     intro j t hj k v hk hv
     refine hkeep ?_
     have := hown.cells rfl (j * 4 + k) v ((flat_get hj k hk).trans hv)
     rw [show ((⟨g, 0, none⟩ : Addr).add (j * 4 + k)) = ⟨g, j * 4 + k, none⟩ from by unfold Addr.add; split <;> simp_all] at this
     exact this
   have hgl : g < w1.heap.size := (Array.getElem?_eq_some_iff.1 hg).1
   refine ⟨⟨_, cap, g, c0, fun _ => rfl, hn, ⟨fun j t hj => cells j t hj 0 _ (by omega) rfl, fun j t hj => cells j t hj 1 _ (by omega) rfl, fun j t hj => cells j t hj 2 _ (by omega) rfl, fun j t hj => cells j t hj 3 _ (by omega) rfl⟩, fun _ => by show g ≠ w1.heap.size; omega⟩, by simp [go_sem, ctxOf], by simp [go_sem, ctxOf], by simp [go_sem, ctxOf], Nat.zero_le _, hL, hkeep he, h0, fun b n cp hb hne => ?_⟩
   have hb : (w1.alloc (.cells #[.slice (some ⟨g, 0, none⟩) (goodOf (pieces s)).length cap, .int .i64 0, .int .i64 s.size] 86)).cell? ⟨w1.heap.size, 0, none⟩ = some (.slice b n cp) := hb
   rw [c0] at hb
   simp only [Option.some.injEq, Value.slice.injEq] at hb
   rw [<- hb.1]
   rfl
end Go.Proofs.YtonmcakdofbjiaaGreatDoor
