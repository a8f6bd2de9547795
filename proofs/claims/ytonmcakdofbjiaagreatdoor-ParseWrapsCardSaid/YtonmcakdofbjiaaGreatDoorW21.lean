/-
  The parts: Prs14 Prs15 Tok6 Tok7
-/
import Derived.Test.YtonmcakdofbjiaaGreatDoorW20
import Derived.Test.YtonmcakdofbjiaaGreatDoorW16
set_option linter.unusedVariables false
set_option linter.unusedSimpArgs false
set_option linter.unusedSectionVars false
namespace Go.Proofs.YtonmcakdofbjiaaGreatDoor
def Le {α : Type} (x y : Option (Res α)) : Prop := ∀ r, x = some r → y = some r
theorem Le.refl {α : Type} (x : Option (Res α)) : Le x x := fun _ h => h
theorem le_then {α β : Type} {x y : Option (Res α)} {F G : α → Nat → Option (Res β)} (h : Le x y) (k : ∀ a j, Le (F a j) (G a j)) : Le (andThen x F) (andThen y G) := by
  intro r hr
  cases x with
  | none => cases hr
  | some z =>
    rw [h z rfl]
    cases z with
    | no p => exact hr
    | ok a j => exact k a j r hr
theorem le_ite {α : Type} {c : Prop} [Decidable c] {x y x' y' : Option (Res α)} (h : c → Le x x') (k : ¬ c → Le y y') : Le (if c then x else y) (if c then x' else y') := by
  by_cases hc : c
  · rw [if_pos hc, if_pos hc]; exact h hc
  · rw [if_neg hc, if_neg hc]; exact k hc
theorem le_one {t : Tr → Option (Res (List Tr))} {t' : Tr → Option (Res (List Tr))} (ts : List Tr) (h : ∀ x, Le (t x) (t' x)) : Le (match ts with | [x] => t x | _ => none) (match ts with | [x] => t' x | _ => none) := by
  match ts with
  | [] => exact Le.refl _
  | [x] => exact h x
  | _ :: _ :: _ => exact Le.refl _
theorem rd_succ (C : Ctx) : ∀ (f : Nat) (nt : NT) (i : Nat), Le (rd C f nt i) (rd C (f + 1) nt i) := by
  intro f
  induction f with
  | zero => intro nt i r h; cases h
  | succ f ih =>
    intro nt i
    cases nt with
    | rest k left =>
      rw [rd, rd]
      cases opAt k C.l i with
      | none => exact Le.refl _
      | some op => exact le_then (ih _ _) fun ts j => le_one ts fun x => le_ite (fun _ => Le.refl _) fun _ => ih _ _
    | row k => rw [rd, rd]; exact le_ite (fun _ => ih _ _) fun _ => le_then (ih _ _) fun ts j => le_one ts fun x => ih _ _
    | _ =>
      rw [rd, rd]
      repeat' first
        | exact Le.refl _
        | exact ih _ _
        | (refine le_then ?_ fun a j => ?_)
        | (refine le_ite (fun _ => ?_) fun _ => ?_)
theorem rd_add (C : Ctx) (f d : Nat) (nt : NT) (i : Nat) : Le (rd C f nt i) (rd C (f + d) nt i) := by
  induction d with
  | zero => exact Le.refl _
  | succ d ih => exact fun r h => rd_succ C (f + d) nt i r (ih r h)
theorem rd_le (C : Ctx) {f f' : Nat} (hf : f ≤ f') (nt : NT) (i : Nat) : Le (rd C f nt i) (rd C f' nt i) := by
  obtain ⟨d, rfl⟩ := Nat.exists_eq_add_of_le hf
  exact rd_add C f d nt i
theorem rd_same (C : Ctx) {f f' : Nat} {nt : NT} {i : Nat} {r r' : Res (List Tr)} (h : rd C f nt i = some r) (h' : rd C f' nt i = some r') : r = r' := by
  have h1 := rd_le C (Nat.le_max_left f f') nt i r h
  have h2 := rd_le C (Nat.le_max_right f f') nt i r' h'
  rw [h1] at h2
  exact Option.some.inj h2
/-! ### there is an answer -/
def Mon {α : Type} (X : Nat → Option (Res α)) : Prop := ∀ f f', f ≤ f' → Le (X f) (X f')
def Ex {α : Type} (X : Nat → Option (Res α)) : Prop := ∃ f r, X f = some r
theorem mon_const {α : Type} (x : Option (Res α)) : Mon fun _ => x := fun _ _ _ => Le.refl _
theorem mon_rd (C : Ctx) (nt : NT) (i : Nat) : Mon fun f => rd C f nt i := fun _ _ h => rd_le C h nt i
theorem mon_then {α β : Type} {X : Nat → Option (Res α)} {F : Nat → α → Nat → Option (Res β)} (h : Mon X) (k : ∀ a j, Mon fun f => F f a j) : Mon fun f => andThen (X f) (F f) := fun f f' hf => le_then (h f f' hf) fun a j => k a j f f' hf
theorem mon_ite {α : Type} {c : Prop} [Decidable c] {X Y : Nat → Option (Res α)} (h : c → Mon X) (k : ¬ c → Mon Y) : Mon fun f => if c then X f else Y f := fun f f' hf => le_ite (fun hc => h hc f f' hf) (fun hc => k hc f f' hf)
theorem ex_const {α : Type} (r : Res α) : Ex fun _ => some r := ⟨0, r, rfl⟩
theorem ex_ite {α : Type} {c : Prop} [Decidable c] {X Y : Nat → Option (Res α)} (h : c → Ex X) (k : ¬ c → Ex Y) : Ex fun f => if c then X f else Y f := by
  by_cases hc : c
  · simp only [if_pos hc]; exact h hc
  · simp only [if_neg hc]; exact k hc
theorem ex_then {α β : Type} {X : Nat → Option (Res α)} {F : Nat → α → Nat → Option (Res β)} (hX : Ex X) (mX : Mon X) (mF : ∀ a j, Mon fun f => F f a j) (hF : ∀ f a j, X f = some (.ok a j) → Ex fun f => F f a j) : Ex fun f => andThen (X f) (F f) := by
  obtain ⟨f0, r0, h0⟩ := hX
  cases r0 with
  | no p => exact ⟨f0, .no p, by simp only [h0]; rfl⟩
  | ok a j =>
    obtain ⟨f1, r1, h1⟩ := hF f0 a j h0
    refine ⟨max f0 f1, r1, ?_⟩
    have e := mX f0 (max f0 f1) (Nat.le_max_left _ _) _ h0
    simp only [e]
    exact mF a j f1 (max f0 f1) (Nat.le_max_right _ _) _ h1
theorem ex_want (C : Ctx) (s : ByteArray) (i : Nat) : Ex fun _ => wantR C s i := ⟨0, _, rfl⟩
theorem ex_name (C : Ctx) (i : Nat) : Ex fun _ => nameR C i := ⟨0, _, rfl⟩
theorem ex_number (C : Ctx) (i : Nat) : Ex fun _ => numberR C i := ⟨0, _, rfl⟩
theorem ex_succ {C : Ctx} {nt : NT} {i : Nat} (h : Ex fun f => rd C (f + 1) nt i) : Ex fun f => rd C f nt i := let ⟨f, r, h⟩ := h; ⟨f + 1, r, h⟩
def rank : NT → Nat
  | .row k => 2 * (6 - k) + 3
  | .rest _ _ => 0
  | .unary => 2
  | .atom => 1
  | .stmt => 16
  | .stmts => 17
  | .block => 18
  | .prog => 18
def meas (C : Ctx) (nt : NT) (i : Nat) : Nat := (C.l.length - i) * 20 + rank nt
theorem meas_later {C : Ctx} {nt nt' : NT} {i j : Nat} (h : i < j) (hi : i < C.l.length) (hr : rank nt' < 20) : meas C nt' j < meas C nt i := by
  unfold meas
  have : (C.l.length - j) + 1 ≤ C.l.length - i := by omega
  omega
theorem meas_same {C : Ctx} {nt nt' : NT} {i j : Nat} (h : i ≤ j) (hr : rank nt' < rank nt) : meas C nt' j < meas C nt i := by
  unfold meas
  have : (C.l.length - j) ≤ C.l.length - i := by omega
  omega
theorem stmt_in {C : Ctx} {f i j : Nat} {t : Tr} {l : List Tr} (h : rd C f .stmt i = some (.ok (t :: l) j)) : i < C.l.length := by
  rcases Nat.lt_or_ge i C.l.length with h1 | h1
  · exact h1
  · exfalso
    have hn : C.l[i]? = none := List.getElem?_eq_none h1
    cases f with
    | zero => cases h
    | succ f => simp [rd, namedB, comesB, hn] at h
theorem opAt_lt {k : Nat} {l : List Item} {i : Nat} {op : Int} (h : opAt k l i = some op) : i < l.length := by
  unfold opAt at h
  cases hx : l[i]? with
  | none => rw [hx] at h; cases h
  | some x => exact (List.getElem?_eq_some_iff.1 hx).1
theorem row_len (C : Ctx) : ∀ (f : Nat) (nt : NT) (i j : Nat) (ts : List Tr), (match nt with | .row _ | .rest _ _ | .unary | .atom => True | _ => False) → rd C f nt i = some (.ok ts j) → ∃ t, ts = [t] := by
  intro f
  induction f with
  | zero => intro nt i j ts _ h; cases h
  | succ f ih =>
    have th : ∀ {α : Type} {x : Option (Res α)} {F : α → Nat → Option (Res (List Tr))} {ts : List Tr} {j : Nat}, andThen x F = some (.ok ts j) → ∃ a k, x = some (.ok a k) ∧ F a k = some (.ok ts j) := by
      intro α x F ts j h
      cases x with
      | none => cases h
      | some y => cases y with
        | no p => simp [andThen] at h
        | ok a k => exact ⟨a, k, rfl, h⟩
    intro nt i j ts hnt h
    cases nt with
    | row k =>
      simp only [rd] at h
      split at h
      · exact ih _ _ _ _ trivial h
      · obtain ⟨a, m, h1, h2⟩ := th h
        split at h2
        · exact ih _ _ _ _ trivial h2
        · cases h2
    | rest k left =>
      simp only [rd] at h
      split at h
      · cases h; exact ⟨_, rfl⟩
      · obtain ⟨a, m, h1, h2⟩ := th h
        split at h2
        · split at h2
          · cases h2; exact ⟨_, rfl⟩
          · exact ih _ _ _ _ trivial h2
        · cases h2
    | unary =>
      simp only [rd] at h
      split at h
      · obtain ⟨a, m, h1, h2⟩ := th h; cases h2; exact ⟨_, rfl⟩
      · split at h
        · obtain ⟨a, m, h1, h2⟩ := th h; cases h2; exact ⟨_, rfl⟩
        · exact ih _ _ _ _ trivial h
    | atom =>
      simp only [rd] at h
      split at h
      · cases h; exact ⟨_, rfl⟩
      · split at h
        · cases h; exact ⟨_, rfl⟩
        · split at h
          · obtain ⟨a, m, h1, h2⟩ := th h
            obtain ⟨b, m2, h3, h4⟩ := th h2
            cases h4
            exact ih _ _ _ _ trivial h1
          · split at h
            · split at h
              · obtain ⟨a, m, h1, h2⟩ := th h
                obtain ⟨b, m2, h3, h4⟩ := th h2
                cases h4; exact ⟨_, rfl⟩
              · cases h; exact ⟨_, rfl⟩
            · obtain ⟨a, m, h1, h2⟩ := th h; cases h2; exact ⟨_, rfl⟩
    | stmt => cases hnt
    | stmts => cases hnt
    | block => cases hnt
    | prog => cases hnt
theorem mon_one {ts : List Tr} {X : Nat → Tr → Option (Res (List Tr))} (h : ∀ x, Mon fun f => X f x) : Mon fun f => match ts with | [x] => X f x | _ => none := fun f f' hf => le_one ts fun x => h x f f' hf
theorem rd_ends (C : Ctx) : ∀ (N : Nat) (nt : NT) (i : Nat), meas C nt i < N → Ex fun f => rd C f nt i := by
  intro N
  induction N with
  | zero => intro nt i h; omega
  | succ N ih =>
    intro nt i hN
    have go : ∀ {nt' : NT} {j : Nat}, meas C nt' j < meas C nt i → Ex fun f => rd C f nt' j := fun h => ih _ _ (by omega)
    have later : ∀ {nt' : NT} {j : Nat}, i < j → i < C.l.length → rank nt' < 20 → Ex fun f => rd C f nt' j := fun h1 h2 h3 => go (meas_later h1 h2 h3)
    have same : ∀ {nt' : NT} {j : Nat}, i ≤ j → rank nt' < rank nt → Ex fun f => rd C f nt' j := fun h1 h2 => go (meas_same h1 h2)
    apply ex_succ
    cases nt with
    | row k =>
      simp only [rd]
      refine ex_ite (fun h => same (Nat.le_refl _) (by simp [rank])) fun h => ?_
      refine ex_then (same (Nat.le_refl _) (by simp [rank]; omega)) (mon_rd C _ _) (fun a j => mon_one fun x => mon_rd C _ _) fun f a j hx => ?_
      obtain ⟨t, rfl⟩ := row_len C f _ _ _ _ trivial hx
      exact same (up_rd C f _ i i (Nat.le_refl _) _ _ hx) (by simp [rank])
    | rest k left =>
      simp only [rd]
      cases hop : opAt k C.l i with
      | none => exact ex_const _
      | some op =>
        have hi := opAt_lt hop
        refine ex_then (later (Nat.lt_succ_self i) hi (by simp [rank]; omega)) (mon_rd C _ _) (fun a j => mon_one fun x => mon_ite (fun _ => mon_const _) fun _ => mon_rd C _ _) fun f a j hx => ?_
        obtain ⟨t, rfl⟩ := row_len C f _ _ _ _ trivial hx
        have := up_rd C f _ (i + 1) (i + 1) (Nat.le_refl _) _ _ hx
        exact ex_ite (fun _ => ex_const _) fun _ => later (by omega) hi (by simp [rank])
    | unary =>
      simp only [rd]
      refine ex_ite (fun h => ex_then (later (Nat.lt_succ_self i) (comes_lt h) (by simp [rank])) (mon_rd C _ _) (fun a j => mon_const _) fun f a j hx => ex_const _) fun _ => ?_
      refine ex_ite (fun h => ex_then (later (Nat.lt_succ_self i) (comes_lt h) (by simp [rank])) (mon_rd C _ _) (fun a j => mon_const _) fun f a j hx => ex_const _) fun _ => ?_
      exact same (Nat.le_refl _) (by simp [rank])
    | atom =>
      simp only [rd]
      refine ex_ite (fun _ => ex_const _) fun _ => ex_ite (fun _ => ex_const _) fun _ => ex_ite (fun h => ?_) fun _ => ex_ite (fun h => ex_ite (fun h2 => ?_) fun _ => ex_const _) fun _ => ?_
      · exact ex_then (later (Nat.lt_succ_self i) (comes_lt h) (by simp [rank])) (mon_rd C _ _) (fun a j => mon_const _) fun f a j hx => ex_then (ex_want ..) (mon_const _) (fun _ _ => mon_const _) fun _ _ _ _ => ex_const _
      · exact ex_then (later (by omega) (named_lt h) (by simp [rank])) (mon_rd C _ _) (fun a j => mon_const _) fun f a j hx => ex_then (ex_want ..) (mon_const _) (fun _ _ => mon_const _) fun _ _ _ _ => ex_const _
      · exact ex_then (ex_number ..) (mon_const _) (fun _ _ => mon_const _) fun _ _ _ _ => ex_const _
    | stmt =>
      simp only [rd]
      refine ex_ite (fun h => ex_ite (fun h2 => ?_) fun _ => ?_) fun _ => ex_ite (fun h => ?_) fun _ => ex_ite (fun h => ?_) fun _ => ex_ite (fun h => ?_) fun _ => ex_ite (fun h => ?_) fun _ => ex_ite (fun h => ?_) fun _ => ex_const _
      · have hi := (by first | exact named_lt h | exact comes_lt h : i < C.l.length)
        refine ex_then (later (by omega) hi (by simp [rank])) (by repeat' first | exact mon_rd C _ _ | exact mon_const _ | (refine mon_then ?_ fun _ _ => ?_) | (refine mon_ite (fun _ => ?_) fun _ => ?_)) (fun _ _ => (by repeat' first | exact mon_rd C _ _ | exact mon_const _ | (refine mon_then ?_ fun _ _ => ?_) | (refine mon_ite (fun _ => ?_) fun _ => ?_))) fun f1 a1 j1 hx1 => ?_
        have hu1 := up_rd C f1 _ (i + 2) (i + 2) (Nat.le_refl _) _ _ hx1
        refine ex_then (ex_want ..) (by repeat' first | exact mon_rd C _ _ | exact mon_const _ | (refine mon_then ?_ fun _ _ => ?_) | (refine mon_ite (fun _ => ?_) fun _ => ?_)) (fun _ _ => (by repeat' first | exact mon_rd C _ _ | exact mon_const _ | (refine mon_then ?_ fun _ _ => ?_) | (refine mon_ite (fun _ => ?_) fun _ => ?_))) fun f2 a2 j2 hx2 => ?_
        have hu2 := up_want (C := C) (Nat.le_refl j1) _ _ hx2
        refine ex_then (ex_want ..) (by repeat' first | exact mon_rd C _ _ | exact mon_const _ | (refine mon_then ?_ fun _ _ => ?_) | (refine mon_ite (fun _ => ?_) fun _ => ?_)) (fun _ _ => (by repeat' first | exact mon_rd C _ _ | exact mon_const _ | (refine mon_then ?_ fun _ _ => ?_) | (refine mon_ite (fun _ => ?_) fun _ => ?_))) fun f3 a3 j3 hx3 => ?_
        have hu3 := up_want (C := C) (Nat.le_refl j2) _ _ hx3
        refine ex_then (later (by omega) hi (by simp [rank])) (by repeat' first | exact mon_rd C _ _ | exact mon_const _ | (refine mon_then ?_ fun _ _ => ?_) | (refine mon_ite (fun _ => ?_) fun _ => ?_)) (fun _ _ => (by repeat' first | exact mon_rd C _ _ | exact mon_const _ | (refine mon_then ?_ fun _ _ => ?_) | (refine mon_ite (fun _ => ?_) fun _ => ?_))) fun f4 a4 j4 hx4 => ?_
        have hu4 := up_rd C f4 _ j3 j3 (Nat.le_refl _) _ _ hx4
        refine ex_then (ex_want ..) (by repeat' first | exact mon_rd C _ _ | exact mon_const _ | (refine mon_then ?_ fun _ _ => ?_) | (refine mon_ite (fun _ => ?_) fun _ => ?_)) (fun _ _ => (by repeat' first | exact mon_rd C _ _ | exact mon_const _ | (refine mon_then ?_ fun _ _ => ?_) | (refine mon_ite (fun _ => ?_) fun _ => ?_))) fun f5 a5 j5 hx5 => ?_
        have hu5 := up_want (C := C) (Nat.le_refl j4) _ _ hx5
        exact ex_const _
      · have hi := (by first | exact named_lt h | exact comes_lt h : i < C.l.length)
        refine ex_then (ex_want ..) (by repeat' first | exact mon_rd C _ _ | exact mon_const _ | (refine mon_then ?_ fun _ _ => ?_) | (refine mon_ite (fun _ => ?_) fun _ => ?_)) (fun _ _ => (by repeat' first | exact mon_rd C _ _ | exact mon_const _ | (refine mon_then ?_ fun _ _ => ?_) | (refine mon_ite (fun _ => ?_) fun _ => ?_))) fun f1 a1 j1 hx1 => ?_
        have hu1 := up_want (C := C) (Nat.le_refl (i + 1)) _ _ hx1
        refine ex_then (later (by omega) hi (by simp [rank])) (by repeat' first | exact mon_rd C _ _ | exact mon_const _ | (refine mon_then ?_ fun _ _ => ?_) | (refine mon_ite (fun _ => ?_) fun _ => ?_)) (fun _ _ => (by repeat' first | exact mon_rd C _ _ | exact mon_const _ | (refine mon_then ?_ fun _ _ => ?_) | (refine mon_ite (fun _ => ?_) fun _ => ?_))) fun f2 a2 j2 hx2 => ?_
        have hu2 := up_rd C f2 _ j1 j1 (Nat.le_refl _) _ _ hx2
        refine ex_then (ex_want ..) (by repeat' first | exact mon_rd C _ _ | exact mon_const _ | (refine mon_then ?_ fun _ _ => ?_) | (refine mon_ite (fun _ => ?_) fun _ => ?_)) (fun _ _ => (by repeat' first | exact mon_rd C _ _ | exact mon_const _ | (refine mon_then ?_ fun _ _ => ?_) | (refine mon_ite (fun _ => ?_) fun _ => ?_))) fun f3 a3 j3 hx3 => ?_
        have hu3 := up_want (C := C) (Nat.le_refl j2) _ _ hx3
        exact ex_const _
      · have hi := (by first | exact named_lt h | exact comes_lt h : i < C.l.length)
        refine ex_then (ex_name ..) (by repeat' first | exact mon_rd C _ _ | exact mon_const _ | (refine mon_then ?_ fun _ _ => ?_) | (refine mon_ite (fun _ => ?_) fun _ => ?_)) (fun _ _ => (by repeat' first | exact mon_rd C _ _ | exact mon_const _ | (refine mon_then ?_ fun _ _ => ?_) | (refine mon_ite (fun _ => ?_) fun _ => ?_))) fun f1 a1 j1 hx1 => ?_
        have hu1 := up_name (C := C) (Nat.le_refl (i + 1)) _ _ hx1
        refine ex_then (ex_want ..) (by repeat' first | exact mon_rd C _ _ | exact mon_const _ | (refine mon_then ?_ fun _ _ => ?_) | (refine mon_ite (fun _ => ?_) fun _ => ?_)) (fun _ _ => (by repeat' first | exact mon_rd C _ _ | exact mon_const _ | (refine mon_then ?_ fun _ _ => ?_) | (refine mon_ite (fun _ => ?_) fun _ => ?_))) fun f2 a2 j2 hx2 => ?_
        have hu2 := up_want (C := C) (Nat.le_refl j1) _ _ hx2
        exact ex_const _
      · have hi := (by first | exact named_lt h | exact comes_lt h : i < C.l.length)
        refine ex_then (later (by omega) hi (by simp [rank])) (by repeat' first | exact mon_rd C _ _ | exact mon_const _ | (refine mon_then ?_ fun _ _ => ?_) | (refine mon_ite (fun _ => ?_) fun _ => ?_)) (fun _ _ => (by repeat' first | exact mon_rd C _ _ | exact mon_const _ | (refine mon_then ?_ fun _ _ => ?_) | (refine mon_ite (fun _ => ?_) fun _ => ?_))) fun f1 a1 j1 hx1 => ?_
        have hu1 := up_rd C f1 _ (i + 1) (i + 1) (Nat.le_refl _) _ _ hx1
        refine ex_then (ex_want ..) (by repeat' first | exact mon_rd C _ _ | exact mon_const _ | (refine mon_then ?_ fun _ _ => ?_) | (refine mon_ite (fun _ => ?_) fun _ => ?_)) (fun _ _ => (by repeat' first | exact mon_rd C _ _ | exact mon_const _ | (refine mon_then ?_ fun _ _ => ?_) | (refine mon_ite (fun _ => ?_) fun _ => ?_))) fun f2 a2 j2 hx2 => ?_
        have hu2 := up_want (C := C) (Nat.le_refl j1) _ _ hx2
        exact ex_const _
      · have hi := (by first | exact named_lt h | exact comes_lt h : i < C.l.length)
        refine ex_then (ex_want ..) (by repeat' first | exact mon_rd C _ _ | exact mon_const _ | (refine mon_then ?_ fun _ _ => ?_) | (refine mon_ite (fun _ => ?_) fun _ => ?_)) (fun _ _ => (by repeat' first | exact mon_rd C _ _ | exact mon_const _ | (refine mon_then ?_ fun _ _ => ?_) | (refine mon_ite (fun _ => ?_) fun _ => ?_))) fun f1 a1 j1 hx1 => ?_
        have hu1 := up_want (C := C) (Nat.le_refl (i + 1)) _ _ hx1
        exact ex_const _
      · have hi := (by first | exact named_lt h | exact comes_lt h : i < C.l.length)
        refine ex_then (later (by omega) hi (by simp [rank])) (by repeat' first | exact mon_rd C _ _ | exact mon_const _ | (refine mon_then ?_ fun _ _ => ?_) | (refine mon_ite (fun _ => ?_) fun _ => ?_)) (fun _ _ => (by repeat' first | exact mon_rd C _ _ | exact mon_const _ | (refine mon_then ?_ fun _ _ => ?_) | (refine mon_ite (fun _ => ?_) fun _ => ?_))) fun f1 a1 j1 hx1 => ?_
        have hu1 := up_rd C f1 _ (i + 1) (i + 1) (Nat.le_refl _) _ _ hx1
        refine ex_then (later (by omega) hi (by simp [rank])) (by repeat' first | exact mon_rd C _ _ | exact mon_const _ | (refine mon_then ?_ fun _ _ => ?_) | (refine mon_ite (fun _ => ?_) fun _ => ?_)) (fun _ _ => (by repeat' first | exact mon_rd C _ _ | exact mon_const _ | (refine mon_then ?_ fun _ _ => ?_) | (refine mon_ite (fun _ => ?_) fun _ => ?_))) fun f2 a2 j2 hx2 => ?_
        have hu2 := up_rd C f2 _ j1 j1 (Nat.le_refl _) _ _ hx2
        refine ex_ite (fun _ => ?_) fun _ => ex_const _
        refine ex_then (later (by omega) hi (by simp [rank])) (by repeat' first | exact mon_rd C _ _ | exact mon_const _ | (refine mon_then ?_ fun _ _ => ?_) | (refine mon_ite (fun _ => ?_) fun _ => ?_)) (fun _ _ => (by repeat' first | exact mon_rd C _ _ | exact mon_const _ | (refine mon_then ?_ fun _ _ => ?_) | (refine mon_ite (fun _ => ?_) fun _ => ?_))) fun f3 a3 j3 hx3 => ?_
        have hu3 := up_rd C f3 _ (j2 + 1) (j2 + 1) (Nat.le_refl _) _ _ hx3
        exact ex_const _
      · have hi := (by first | exact named_lt h | exact comes_lt h : i < C.l.length)
        refine ex_then (later (by omega) hi (by simp [rank])) (by repeat' first | exact mon_rd C _ _ | exact mon_const _ | (refine mon_then ?_ fun _ _ => ?_) | (refine mon_ite (fun _ => ?_) fun _ => ?_)) (fun _ _ => (by repeat' first | exact mon_rd C _ _ | exact mon_const _ | (refine mon_then ?_ fun _ _ => ?_) | (refine mon_ite (fun _ => ?_) fun _ => ?_))) fun f1 a1 j1 hx1 => ?_
        have hu1 := up_rd C f1 _ (i + 1) (i + 1) (Nat.le_refl _) _ _ hx1
        refine ex_then (later (by omega) hi (by simp [rank])) (by repeat' first | exact mon_rd C _ _ | exact mon_const _ | (refine mon_then ?_ fun _ _ => ?_) | (refine mon_ite (fun _ => ?_) fun _ => ?_)) (fun _ _ => (by repeat' first | exact mon_rd C _ _ | exact mon_const _ | (refine mon_then ?_ fun _ _ => ?_) | (refine mon_ite (fun _ => ?_) fun _ => ?_))) fun f2 a2 j2 hx2 => ?_
        have hu2 := up_rd C f2 _ j1 j1 (Nat.le_refl _) _ _ hx2
        exact ex_const _
    | stmts =>
      simp only [rd]
      refine ex_then (same (Nat.le_refl _) (by simp [rank])) (by repeat' first | exact mon_rd C _ _ | exact mon_const _ | (refine mon_then ?_ fun _ _ => ?_) | (refine mon_ite (fun _ => ?_) fun _ => ?_)) (fun _ _ => (by repeat' first | exact mon_rd C _ _ | exact mon_const _ | (refine mon_then ?_ fun _ _ => ?_) | (refine mon_ite (fun _ => ?_) fun _ => ?_))) fun f1 a1 j1 hx1 => ?_
      cases a1 with
      | nil => exact ex_const _
      | cons u l =>
        have h1 := stmt_lt hx1
        have h2 := stmt_in hx1
        simp only [List.isEmpty_cons]
        refine ex_ite (fun h => by cases h) fun _ => ?_
        refine ex_then (later (by omega) h2 (by simp [rank])) (by repeat' first | exact mon_rd C _ _ | exact mon_const _ | (refine mon_then ?_ fun _ _ => ?_) | (refine mon_ite (fun _ => ?_) fun _ => ?_)) (fun _ _ => (by repeat' first | exact mon_rd C _ _ | exact mon_const _ | (refine mon_then ?_ fun _ _ => ?_) | (refine mon_ite (fun _ => ?_) fun _ => ?_))) fun f2 a2 j2 hx2 => ?_
        have hu2 := up_rd C f2 _ j1 j1 (Nat.le_refl _) _ _ hx2
        exact ex_const _
    | block =>
      simp only [rd]
      by_cases hi : i < C.l.length
      · skip
        refine ex_then (ex_want ..) (by repeat' first | exact mon_rd C _ _ | exact mon_const _ | (refine mon_then ?_ fun _ _ => ?_) | (refine mon_ite (fun _ => ?_) fun _ => ?_)) (fun _ _ => (by repeat' first | exact mon_rd C _ _ | exact mon_const _ | (refine mon_then ?_ fun _ _ => ?_) | (refine mon_ite (fun _ => ?_) fun _ => ?_))) fun f1 a1 j1 hx1 => ?_
        have hu1 := up_want (C := C) (Nat.le_refl i) _ _ hx1
        have hj1 : i < j1 := by
          unfold wantR at hx1
          split at hx1
          · cases hx1; omega
          · cases hx1
        refine ex_then (later (by omega) hi (by simp [rank])) (by repeat' first | exact mon_rd C _ _ | exact mon_const _ | (refine mon_then ?_ fun _ _ => ?_) | (refine mon_ite (fun _ => ?_) fun _ => ?_)) (fun _ _ => (by repeat' first | exact mon_rd C _ _ | exact mon_const _ | (refine mon_then ?_ fun _ _ => ?_) | (refine mon_ite (fun _ => ?_) fun _ => ?_))) fun f2 a2 j2 hx2 => ?_
        have hu2 := up_rd C f2 _ j1 j1 (Nat.le_refl _) _ _ hx2
        refine ex_then (ex_want ..) (by repeat' first | exact mon_rd C _ _ | exact mon_const _ | (refine mon_then ?_ fun _ _ => ?_) | (refine mon_ite (fun _ => ?_) fun _ => ?_)) (fun _ _ => (by repeat' first | exact mon_rd C _ _ | exact mon_const _ | (refine mon_then ?_ fun _ _ => ?_) | (refine mon_ite (fun _ => ?_) fun _ => ?_))) fun f3 a3 j3 hx3 => ?_
        have hu3 := up_want (C := C) (Nat.le_refl j2) _ _ hx3
        exact ex_const _
      · have hn : C.l[i]? = none := List.getElem?_eq_none (by omega)
        simp only [wantR, comesB, hn, andThen]
        exact ex_const _
    | prog =>
      simp only [rd]
      refine ex_ite (fun h => ?_) fun _ => ex_ite (fun h => ?_) fun _ => ?_
      · have hi := (by first | exact named_lt h | exact comes_lt h : i < C.l.length)
        refine ex_then (ex_name ..) (by repeat' first | exact mon_rd C _ _ | exact mon_const _ | (refine mon_then ?_ fun _ _ => ?_) | (refine mon_ite (fun _ => ?_) fun _ => ?_)) (fun _ _ => (by repeat' first | exact mon_rd C _ _ | exact mon_const _ | (refine mon_then ?_ fun _ _ => ?_) | (refine mon_ite (fun _ => ?_) fun _ => ?_))) fun f1 a1 j1 hx1 => ?_
        have hu1 := up_name (C := C) (Nat.le_refl (i + 1)) _ _ hx1
        refine ex_then (ex_want ..) (by repeat' first | exact mon_rd C _ _ | exact mon_const _ | (refine mon_then ?_ fun _ _ => ?_) | (refine mon_ite (fun _ => ?_) fun _ => ?_)) (fun _ _ => (by repeat' first | exact mon_rd C _ _ | exact mon_const _ | (refine mon_then ?_ fun _ _ => ?_) | (refine mon_ite (fun _ => ?_) fun _ => ?_))) fun f2 a2 j2 hx2 => ?_
        have hu2 := up_want (C := C) (Nat.le_refl j1) _ _ hx2
        refine ex_then (later (by omega) hi (by simp [rank])) (by repeat' first | exact mon_rd C _ _ | exact mon_const _ | (refine mon_then ?_ fun _ _ => ?_) | (refine mon_ite (fun _ => ?_) fun _ => ?_)) (fun _ _ => (by repeat' first | exact mon_rd C _ _ | exact mon_const _ | (refine mon_then ?_ fun _ _ => ?_) | (refine mon_ite (fun _ => ?_) fun _ => ?_))) fun f3 a3 j3 hx3 => ?_
        have hu3 := up_rd C f3 _ j2 j2 (Nat.le_refl _) _ _ hx3
        exact ex_const _
      · have hi := (by first | exact named_lt h | exact comes_lt h : i < C.l.length)
        refine ex_then (ex_name ..) (by repeat' first | exact mon_rd C _ _ | exact mon_const _ | (refine mon_then ?_ fun _ _ => ?_) | (refine mon_ite (fun _ => ?_) fun _ => ?_)) (fun _ _ => (by repeat' first | exact mon_rd C _ _ | exact mon_const _ | (refine mon_then ?_ fun _ _ => ?_) | (refine mon_ite (fun _ => ?_) fun _ => ?_))) fun f1 a1 j1 hx1 => ?_
        have hu1 := up_name (C := C) (Nat.le_refl (i + 1)) _ _ hx1
        refine ex_then (ex_want ..) (by repeat' first | exact mon_rd C _ _ | exact mon_const _ | (refine mon_then ?_ fun _ _ => ?_) | (refine mon_ite (fun _ => ?_) fun _ => ?_)) (fun _ _ => (by repeat' first | exact mon_rd C _ _ | exact mon_const _ | (refine mon_then ?_ fun _ _ => ?_) | (refine mon_ite (fun _ => ?_) fun _ => ?_))) fun f2 a2 j2 hx2 => ?_
        have hu2 := up_want (C := C) (Nat.le_refl j1) _ _ hx2
        refine ex_then (ex_number ..) (by repeat' first | exact mon_rd C _ _ | exact mon_const _ | (refine mon_then ?_ fun _ _ => ?_) | (refine mon_ite (fun _ => ?_) fun _ => ?_)) (fun _ _ => (by repeat' first | exact mon_rd C _ _ | exact mon_const _ | (refine mon_then ?_ fun _ _ => ?_) | (refine mon_ite (fun _ => ?_) fun _ => ?_))) fun f3 a3 j3 hx3 => ?_
        have hu3 := up_number (C := C) (Nat.le_refl j2) _ _ hx3
        refine ex_then (ex_want ..) (by repeat' first | exact mon_rd C _ _ | exact mon_const _ | (refine mon_then ?_ fun _ _ => ?_) | (refine mon_ite (fun _ => ?_) fun _ => ?_)) (fun _ _ => (by repeat' first | exact mon_rd C _ _ | exact mon_const _ | (refine mon_then ?_ fun _ _ => ?_) | (refine mon_ite (fun _ => ?_) fun _ => ?_))) fun f4 a4 j4 hx4 => ?_
        have hu4 := up_want (C := C) (Nat.le_refl j3) _ _ hx4
        refine ex_then (ex_want ..) (by repeat' first | exact mon_rd C _ _ | exact mon_const _ | (refine mon_then ?_ fun _ _ => ?_) | (refine mon_ite (fun _ => ?_) fun _ => ?_)) (fun _ _ => (by repeat' first | exact mon_rd C _ _ | exact mon_const _ | (refine mon_then ?_ fun _ _ => ?_) | (refine mon_ite (fun _ => ?_) fun _ => ?_))) fun f5 a5 j5 hx5 => ?_
        have hu5 := up_want (C := C) (Nat.le_refl j4) _ _ hx5
        refine ex_then (later (by omega) hi (by simp [rank])) (by repeat' first | exact mon_rd C _ _ | exact mon_const _ | (refine mon_then ?_ fun _ _ => ?_) | (refine mon_ite (fun _ => ?_) fun _ => ?_)) (fun _ _ => (by repeat' first | exact mon_rd C _ _ | exact mon_const _ | (refine mon_then ?_ fun _ _ => ?_) | (refine mon_ite (fun _ => ?_) fun _ => ?_))) fun f6 a6 j6 hx6 => ?_
        have hu6 := up_rd C f6 _ j5 j5 (Nat.le_refl _) _ _ hx6
        exact ex_const _
      · refine ex_then (same (Nat.le_refl _) (by simp [rank])) (by repeat' first | exact mon_rd C _ _ | exact mon_const _ | (refine mon_then ?_ fun _ _ => ?_) | (refine mon_ite (fun _ => ?_) fun _ => ?_)) (fun _ _ => (by repeat' first | exact mon_rd C _ _ | exact mon_const _ | (refine mon_then ?_ fun _ _ => ?_) | (refine mon_ite (fun _ => ?_) fun _ => ?_))) fun f1 a1 j1 hx1 => ?_
        exact ex_ite (fun _ => ex_const _) fun _ => ex_const _
end Go.Proofs.YtonmcakdofbjiaaGreatDoor
namespace Go.Proofs.YtonmcakdofbjiaaGreatDoor
def nodes (ts : List Tr) : Nat := (flatTs ts 0).length
theorem nodes_nil : nodes [] = 0 := rfl
theorem nodes_append (a b : List Tr) : nodes (a ++ b) = nodes a + nodes b := by simp [nodes, flatTs_append]
theorem nodes_cons (t : Tr) (b : List Tr) : nodes (t :: b) = nodes [t] + nodes b := nodes_append [t] b
theorem nodes_leaf (k : Int) (n : ByteArray) (x o a : Int) (ks : List Tr) : nodes [leafT k n x o a ks] = 1 + nodes ks := by
  simp only [nodes, flatTs, leafT, flatT, List.length_append, List.length_cons, List.length_nil, flatTs_length (0 + 1) 0 ks]
  omega
def Cn (i m : Nat) (x : Option (Res (List Tr))) : Prop := ∀ ts j, x = some (.ok ts j) → i + nodes ts ≤ j + m
def lefts : NT → Nat
  | .rest _ left => nodes [left]
  | _ => 0
theorem then_ok {α β : Type} {x : Option (Res α)} {F : α → Nat → Option (Res β)} {b : β} {j : Nat} (h : andThen x F = some (.ok b j)) : ∃ a k, x = some (.ok a k) ∧ F a k = some (.ok b j) := by
  cases x with
  | none => cases h
  | some y => cases y with
    | no p => simp [andThen] at h
    | ok a k => exact ⟨a, k, rfl, h⟩
theorem want_ok {C : Ctx} {s : ByteArray} {i k : Nat} {u : Unit} (h : wantR C s i = some (.ok u k)) : k = i + 1 := by
  unfold wantR at h; split at h
  · cases h; rfl
  · cases h
theorem name_ok {C : Ctx} {i k : Nat} {u : ByteArray} (h : nameR C i = some (.ok u k)) : k = i + 1 := by
  unfold nameR at h; split at h
  · cases h; rfl
  · cases h
theorem number_ok {C : Ctx} {i k : Nat} {u : Int} (h : numberR C i = some (.ok u k)) : k = i + 1 := by
  unfold numberR at h; split at h
  · cases h; rfl
  · cases h
theorem cn_then {α : Type} {i m : Nat} {x : Option (Res α)} {F : α → Nat → Option (Res (List Tr))} (k : ∀ a j, x = some (.ok a j) → Cn i m (F a j)) : Cn i m (andThen x F) := by
  intro ts j h
  obtain ⟨a, k', h1, h2⟩ := then_ok h
  exact k a k' h1 ts j h2
theorem cn_ok {i m k : Nat} {ts : List Tr} (h : i + nodes ts ≤ k + m) : Cn i m (some (.ok ts k)) := fun _ _ e => by cases e; exact h
theorem cn_no {i m : Nat} {p : Int} : Cn i m (some (.no p)) := fun _ _ e => by cases e
theorem cn_none {i m : Nat} : Cn i m none := fun _ _ e => by cases e
theorem rd_nodes (C : Ctx) : ∀ (f : Nat) (nt : NT) (i : Nat), Cn i (lefts nt) (rd C f nt i) := by
  intro f
  induction f with
  | zero => intro nt i; exact cn_none
  | succ f ih =>
    intro nt i
    cases nt with
    | row k =>
      simp only [rd]
      split
      · exact ih .unary i
      · refine cn_then fun a j h => ?_
        have h1 := ih _ _ _ _ h
        split
        · intro ts m h2
          have h3 := ih _ _ _ _ h2
          simp only [lefts] at h1 h3 ⊢
          omega
        · exact cn_none
    | rest k left =>
      simp only [rd]
      split
      · exact cn_ok (by simp [lefts])
      · refine cn_then fun a j h => ?_
        have h1 := ih _ _ _ _ h
        simp only [lefts] at h1
        split
        · have e2 := nodes_cons left
          split
          · refine cn_ok ?_
            rw [nodes_leaf, e2]
            simp only [lefts]
            omega
          · intro ts m h2
            have h3 : _ + nodes ts ≤ m + nodes [_] := ih _ _ _ _ h2
            rw [nodes_leaf, e2] at h3
            show i + nodes ts ≤ m + nodes [left]
            omega
        · exact cn_none
    | _ =>
      simp only [rd]
      repeat' first
        | exact cn_none
        | exact cn_no
        | (refine cn_then fun _ _ h => ?_; first | (have h1 := want_ok h; clear h) | (have h1 := name_ok h; clear h) | (have h1 := number_ok h; clear h) | (have h1 := ih _ _ _ _ h; simp only [lefts] at h1; clear h))
        | (exact ih _ _)
        | (refine cn_ok ?_; simp only [lefts, nodes_leaf, nodes_append, nodes_nil]; omega)
        | (refine cn_ok ?_; rw [nodes_cons, nodes_leaf]; simp only [lefts, nodes_nil]; omega)
        | split
end Go.Proofs.YtonmcakdofbjiaaGreatDoor
namespace Go.Proofs.YtonmcakdofbjiaaGreatDoor
open Go.RowKit Go.Bsd Go.Conc
structure VarsOk (w : World) : Prop where
  plain : ∀ y, y = 5 ∨ y = 6 ∨ y = 7 → ∃ cs T fz, w.heap[y]? = some (.cells cs T fz) ∧ ∀ v ∈ cs, PlainV v
  far : ∀ y, y = 8 ∨ y = 9 → ∃ b o T fz, w.heap[y]? = some (.cells #[.iface 253 (.pointer (some ⟨b, o, none⟩))] T fz)
  size : Tryz.prog.globals.size ≤ w.heap.size
theorem VarsOk.kin {w w' : World} (h : VarsOk w) (k : Kin w w') : VarsOk w' := by
  obtain ⟨h1, h2, h5⟩ := h
  refine ⟨fun y hy => ?_, fun y hy => ?_, Nat.le_trans h5 k.size⟩
  · obtain ⟨cs, T, fz, q1, q2⟩ := h1 y hy
    exact ⟨cs, T, fz, (k.block y (lt_of_some q1)).trans q1, q2⟩
  · obtain ⟨b, o, T, fz, q1⟩ := h2 y hy
    exact ⟨b, o, T, fz, (k.block y (lt_of_some q1)).trans q1⟩
def farW (w : World) (o8 o9 : Obj) : World := { w with heap := (w.heap.setIfInBounds 8 o8).setIfInBounds 9 o9 }
theorem farW_size (w : World) (o8 o9 : Obj) : (farW w o8 o9).heap.size = w.heap.size := by simp [farW]
theorem farW_at (w : World) (o8 o9 : Obj) (hz : 9 < w.heap.size) (y : Nat) : (farW w o8 o9).heap[y]? = if y = 9 then some o9 else if y = 8 then some o8 else w.heap[y]? := by
  show ((w.heap.setIfInBounds 8 o8).setIfInBounds 9 o9)[y]? = _
  rw [Array.getElem?_setIfInBounds, Array.getElem?_setIfInBounds]
  by_cases h9 : y = 9
  · subst h9; simp [hz]
  · by_cases h8 : y = 8
    · subst h8; simp; omega
    · simp [h9, h8, Ne.symm h9, Ne.symm h8]
def farOb (t b o : Nat) (T : TypeId) (fz : Nat × Nat) : Obj := .cells #[.iface t (.tuple #[.complex .f64 b o])] T fz
theorem VarsOk.stands {w : World} (h : VarsOk w) : ∃ o8 o9 : Obj, (∃ te pe, (farW w o8 o9).cell? ⟨8, 0, none⟩ = some (.iface te pe)) ∧ (∃ te pe, (farW w o8 o9).cell? ⟨9, 0, none⟩ = some (.iface te pe)) ∧ 9 < w.heap.size ∧
    (∀ y, (y = 5 ∨ y = 6 ∨ y = 7 ∨ y = 8 ∨ y = 9) → StandsAt (farW w o8 o9) w y) := by
  obtain ⟨h1, h2, h5⟩ := h
  obtain ⟨b8, o8, T8, f8, q8⟩ := h2 8 (.inl rfl)
  obtain ⟨b9, o9, T9, f9, q9⟩ := h2 9 (.inr rfl)
  have hz : 9 < w.heap.size := lt_of_some q9
  have ha := farW_at w (farOb 253 b8 o8 T8 f8) (farOb 253 b9 o9 T9 f9) hz
  refine ⟨farOb 253 b8 o8 T8 f8, farOb 253 b9 o9 T9 f9, ⟨253, .tuple #[.complex .f64 b8 o8], ?_⟩, ⟨253, .tuple #[.complex .f64 b9 o9], ?_⟩, hz, fun y hy => ?_⟩
  · unfold World.cell?
    dsimp only
    rw [ha]
    simp [farOb]
  · unfold World.cell?
    dsimp only
    rw [ha]
    simp [farOb]
  · have one : ∀ (b o : Nat) (i : Nat) (x x' : Value), (#[Value.iface 253 (.tuple #[.complex .f64 b o])] : Array Value)[i]? = some x → (#[Value.iface 253 (.pointer (some ⟨b, o, none⟩))] : Array Value)[i]? = some x' → Stands x x' := by
      intro b o i x x' hx hx'
      cases i with
      | zero =>
        simp at hx hx'
        subst hx hx'
        exact Stands.far 253 b o rfl
      | succ i => simp at hx
    by_cases e9 : y = 9
    · subst e9
      exact ⟨#[.iface 253 (.tuple #[.complex .f64 b9 o9])], _, T9, f9, by rw [ha, if_pos rfl]; rfl, q9, rfl, one b9 o9⟩
    · by_cases e8 : y = 8
      · subst e8
        exact ⟨#[.iface 253 (.tuple #[.complex .f64 b8 o8])], _, T8, f8, by rw [ha, if_neg (by decide), if_pos rfl]; rfl, q8, rfl, one b8 o8⟩
      · obtain ⟨cs, T, fz, q1, q2⟩ := h1 y (by omega)
        refine ⟨cs, cs, T, fz, by rw [ha, if_neg e9, if_neg e8]; exact q1, q1, rfl, fun i x x' hx hx' => ?_⟩
        rw [hx] at hx'
        cases hx'
        exact Stands.plain (q2 x (Array.mem_of_getElem? hx))
def TokRes (s : ByteArray) (w : World) (v : Value) (w' : World) : Prop :=
  if 8192 < s.size then v = .tuple #[.slice none 0 0, .int .i64 21, .int .i64 8192]
  else if (badOf (pieces s)).1 ≠ 0 then v = .tuple #[.slice none 0 0, .int .i64 (badOf (pieces s)).1, .int .i64 (badOf (pieces s)).2]
  else ∃ sl, v = .tuple #[sl, .int .i64 0, .int .i64 0] ∧ w'.ownsRow w.heap.size 140 4 sl (goodOf (pieces s)).length (flatToks (goodOf (pieces s)))
def TokPost (s : ByteArray) (w : World) : Ending → World → Prop
  | .returned v, w' => Kin w w' ∧ TokRes s w v w'
  | _, _ => False
theorem cutF_length (s : ByteArray) : ∀ f i, (cutF s f i).length ≤ f := by
  intro f
  induction f with
  | zero => intro i; exact Nat.le_refl _
  | succ f ih =>
    intro i
    unfold cutF
    split
    · split
      · have := ih (skipTo s (i + (itemAt s i).text.size)); simp; omega
      · simp
    · simp
theorem pieces_length (s : ByteArray) : (pieces s).length ≤ s.size + 1 := cutF_length s _ _
theorem cut_okB : okCodeB Tryz.prog prodF prodG true cutRest = true := by kernel_rfl
theorem tk4_okB : okCodeB Tryz.prog [] [] false tk4 = true := by kernel_rfl
theorem tkGo_okB : ∃ id, tkGo = .region id (regOps tkGo) false := ⟨_, rfl⟩
theorem nobody_sim : SimP Tryz.prog (inF []) (inG []) (fun b => b = false) := simP_of fun f hf => absurd hf (by simp)
theorem plainV_flat (l : List Item) : ∀ u ∈ flatToks l, PlainV u := by
  intro u hu
  simp only [flatToks, List.mem_flatMap] at hu
  obtain ⟨x, _, hx⟩ := hu
  simp only [tokCells, List.mem_cons, List.not_mem_nil, or_false] at hx
  rcases hx with rfl | rfl | rfl | rfl <;> exact plainV_of 0 rfl
theorem plainV_item (x : Item) : PlainV x.v := by
  refine plainV_of 1 ?_
  simp only [Item.v, itemV, grB]
  rfl
/-! ### the frames -/
theorem vsRel_self {F : FuncId → Prop} {ρ : Rn} {cs : Array Value} (h : ∀ v ∈ cs, VRel F ρ v v) : VsRel F ρ cs cs := ⟨rfl, fun i v v' h1 h2 => by
  rw [h1] at h2; cases h2; exact h v (Array.mem_of_getElem? h1)⟩
theorem frel_cons (s : ByteArray) (c : Nat) : FRel Tryz.prog (inF []) (inG []) (fun b => b = false) [] [] (fun x y => x = y ∧ x = c) (frc s c) (frc s c) := by
  refine ⟨rfl, ⟨_, Tryz.func40⟩, vsRel_self ?_, rfl, ?_, .nil, .run, rfl, rfl⟩
  · intro v hv
    have hu : ∀ v, v ∈ (goAct s c).tmps → v = .chan (some c) ∨ grB 2 v = true := by
      intro v hv
      simp only [goAct, List.mem_toArray, List.mem_cons, List.not_mem_nil, or_false] at hv
      rcases hv with rfl | rfl | rfl | rfl | rfl | rfl | rfl | rfl | rfl | rfl | rfl | rfl | rfl | rfl | rfl | rfl | rfl | rfl | rfl | rfl | rfl | rfl | rfl | rfl | rfl | rfl | rfl | rfl | rfl | rfl | rfl | rfl | rfl | rfl | rfl | rfl <;> first | exact .inl rfl | exact .inr rfl
    rcases hu v hv with rfl | h
    · exact .chan (.some ⟨rfl, rfl⟩)
    · exact (grB_ok 2 v h) _ _
  · intro x hx
    simp only [frc, Frame.at, List.mem_cons, List.not_mem_nil, or_false] at hx
    rcases hx with rfl | rfl
    · intro i hi; cases hi
    · exact okCodeB_ok tk4_okB
theorem frel_prod (s : ByteArray) (c : Nat) (Gb : Nat → Prop) : FRel Tryz.prog (inF prodF) (inG prodG) (fun b => b = true) [] [closeD c] (fun x y => x = y ∧ (x = c ∨ Gb x)) (frp s c) (frp' s c) := by
  refine ⟨rfl, ⟨_, Tryz.func77⟩, vsRel_self ?_, rfl, ?_, .nil, .run, rfl, rfl⟩
  · intro v hv
    have hu : v = .chan (some c) ∨ grB 2 v = true := by
      have hv : v ∈ (cutAct s c).tmps := hv
      simp only [cutAct, List.append_toArray, Array.mem_append, List.mem_toArray, List.mem_cons, List.not_mem_nil, or_false, Array.mem_replicate] at hv
      rcases hv with hv | hv
      · rcases hv with rfl | rfl | rfl | rfl | rfl | rfl | rfl | rfl | rfl | rfl | rfl <;> first | exact .inl rfl | exact .inr rfl
      · rw [hv.2]; exact .inr rfl
    rcases hu with rfl | h
    · exact .chan (.some ⟨rfl, .inl rfl⟩)
    · exact (grB_ok 2 v h) _ _
  · intro x hx
    simp only [frp, Frame.at, List.mem_cons, List.not_mem_nil, or_false] at hx
    subst hx
    exact okCodeB_ok cut_okB
theorem res40 (a : Array Value) (x y z : Value) (h2 : a.getD 2 undef = x) (h3 : a.getD 3 undef = y) (h4 : a.getD 4 undef = z) (w : World) : (results Tryz.f40 a).run Tryz.prog w = .ok (.tuple #[x, y, z]) w := by
  subst h2; subst h3; subst h4
  simp [results, Tryz.f40]
theorem tkEnd_wp (s : ByteArray) (w0 w1 : World) (b c : Nat) (sl u : Value) (hs : ¬ 8192 < s.size) (hk : Kin w0 w1) (hbad1 : w1.cell? ⟨b, 4, none⟩ = some (.int .i64 (badOf (pieces s)).1)) (hbad2 : w1.cell? ⟨b, 5, none⟩ = some (.int .i64 (badOf (pieces s)).2))
    (hown : w1.ownsRow w0.heap.size 140 4 sl (goodOf (pieces s)).length (flatToks (goodOf (pieces s)))) (T : Nat → Question → Nat) (d : Nat) (t0 t1 t2 t3 t4 t5 t8 t9 t10 t11 t12 t13 t14 t18 t19 t20 t21 t22 t23 t24 t25 t26 t27 t28 t29 t30 t31 t32 t33 t34 t35 : Value) :
    tkEnd.wp Tryz.prog (bodyPostD Tryz.prog Tryz.f40 (TokPost s w0)) { tmps := #[t0, t1, t2, t3, t4, t5, sl, .pointer (some ⟨b, 0, none⟩), t8, t9, t10, t11, t12, t13, t14, .chan (some c), u, .bool false, t18, t19, t20, t21, t22, t23, t24, t25, t26, t27, t28, t29, t30, t31, t32, t33, t34, t35], defers := [] } (re w1 T d) := by
  have q1 : (re w1 T d).cell? ⟨b, 4, none⟩ = some (.int .i64 (badOf (pieces s)).1) := hbad1
  have q2 : (re w1 T d).cell? ⟨b, 5, none⟩ = some (.int .i64 (badOf (pieces s)).2) := hbad2
  have HK : Hid (Kin w0 (re w1 T d)) := Lib.hid ⟨hk.os, hk.out, hk.size, hk.block⟩
  have HO : Hid ((re w1 T d).ownsRow w0.heap.size 140 4 sl (goodOf (pieces s)).length (flatToks (goodOf (pieces s)))) := Lib.hid hown
  have HS := Lib.hid hs
  clear hbad1 hbad2 hk hown hs
  generalize re w1 T d = w at q1 q2 HK HO ⊢
  generalize hpq : badOf (pieces s) = pq at q1 q2
  have HP := Lib.hid hpq
  clear hpq
  generalize hQ : bodyPostD Tryz.prog Tryz.f40 (TokPost s w0) = Q
  have HQ := Lib.hid hQ
  clear hQ
  simp only [tkEnd, tk4, tk2, tk0, seqR, seqL, Tryz.f40, Option.getD_some]
  by_cases hc : pq.1 = 0
  · have k1 : (pq.1 == 0) = true := by simp [hc]
    have k2 : (pq.1 != 0) = false := by simp [hc]
    have HC := Lib.hid hc
    clear hc
    go_wp2
    rw [← HQ.out]
    refine ⟨_, res40 _ _ _ _ rfl rfl rfl _, HK.out, ?_⟩
    unfold TokRes
    rw [if_neg HS.out, HP.out, if_neg (by simpa using HC.out)]
    exact ⟨sl, rfl, HO.out⟩
  · have k1 : (pq.1 == 0) = false := by simp [hc]
    have k2 : (pq.1 != 0) = true := by simp [hc]
    have HC := Lib.hid hc
    clear hc
    go_wp2
    go_region
    go_wp2
    rw [← HQ.out]
    refine ⟨_, res40 _ _ _ _ rfl rfl rfl _, ⟨HK.out.os, HK.out.out, HK.out.size, HK.out.block⟩, ?_⟩
    unfold TokRes
    rw [if_neg HS.out, HP.out, if_pos HC.out]
    rfl
theorem g_inj {fr fr' : Frame} {l l' : List Frame} (h : Go.Conc.G fr l = Go.Conc.G fr' l') : fr = fr' ∧ l = l' := by
  simp only [Go.Conc.G, Goroutine.mk.injEq] at h
  exact ⟨h.1, h.2.1⟩
theorem tok_tail (hP : TameProg Tryz.prog) (s : ByteArray) (f c : Nat) (w0 W : World) (cs : List Frame) (hs : ¬ 8192 < s.size) (hc : c = w0.heap.size) (hW : ∃ o, W = w0.alloc o) {g : Goroutine} {w1 : World} {ρ : Rn} {fr fr' : Frame} {z z' : Value} {ok : Bool} {v : World}
    (h : PipeEnd Tryz.prog (inF []) (inG []) f c cs W (Xc s f c) g w1 ρ fr fr' z z' ok v) : Bes Tryz.prog (Leav Tryz.prog 40 (TokPost s w0) cs) g w1 := by
  obtain ⟨o, rfl⟩ := hW
  obtain ⟨a, b, sl, eG, ha, hw⟩ := h.end_
  obtain ⟨rfl, _⟩ := g_inj eG
  have hcomm := h.comm v.tape v.drawn
  rw [recv_comm s c b sl a _ ha] at hcomm
  simp only [GStep.comm.injEq, true_and, CommShape.recv.injEq] at hcomm
  obtain rfl : true = ok := by
    have := hcomm
    simp at this
    exact this.2.symm
  have hT := h.rel.tmps
  have hsize : fr'.tmps.size = 36 := by rw [← hT.size]; exact ha.size
  have get : ∀ (i : Nat) (x : Value), a.tmps[i]? = some x → ∃ y, fr'.tmps[i]? = some y ∧ VRel (inF []) ρ x y := by
    intro i x hx
    have hi : i < a.tmps.size := (Array.getElem?_eq_some_iff.1 hx).1
    have hi' : i < fr'.tmps.size := by rw [hsize, ← ha.size]; exact hi
    exact ⟨fr'.tmps[i], Array.getElem?_eq_getElem hi', hT.all i _ _ hx (Array.getElem?_eq_getElem hi')⟩
  obtain ⟨sl', q6, v6⟩ := get 6 _ ha.s6
  obtain ⟨x7, q7, v7⟩ := get 7 _ ha.s7
  obtain ⟨x15, q15, v15⟩ := get 15 _ ha.s15
  obtain ⟨b', hbb, rfl⟩ : ∃ b', ρ b b' ∧ x7 = .pointer (some ⟨b', 0, none⟩) := by
    cases v7 with
    | pointer hx =>
      cases hx with
      | @some p p' hp =>
        obtain ⟨k1, k2, k3⟩ := hp
        obtain ⟨p1, p2, p3⟩ := p'
        simp only at k1 k2 k3
        subst k2; subst k3
        exact ⟨p1, k1, rfl⟩
  obtain ⟨c', rfl⟩ : ∃ c', x15 = .chan (some c') := by
    cases v15 with
    | chan hx => cases hx with | @some p p' hp => exact ⟨p', rfl⟩
  have ha' : TokA s c' b' sl' { tmps := fr'.tmps, defers := [] } := ⟨hsize, q6, q7, q15, rfl⟩
  have hfr : fr' = (base0 40).at { tmps := fr'.tmps, defers := [] } recvK := by
    have h1 := h.rel.fn
    have h2 := h.rel.todo
    have h3 := h.rel.defers
    have h4 := h.rel.mode
    have h5 := h.rel.round'
    have h6 := h.kind
    have hd : ((base0 40).at a recvK).defers = [] := ha.defers
    rw [hd] at h3
    obtain ⟨f1, f2, f3, f4, f5, f6, f7⟩ := fr'
    simp only at h1 h2 h3 h4 h5 h6
    cases h3
    have hm : MRel (inF []) ρ .run f5 := h4
    cases hm
    subst h1; subst h2; subst h5; subst h6
    rfl
  -- what the memory holds
  obtain ⟨y0, y1, y2, y3, hbad⟩ := hw.bad
  have hk1 := cell_int h.wrel hbb hbad.c4
  have hk2 := cell_int h.wrel hbb hbad.c5
  have hlen : (pieces s).take (pieces s).length = pieces s := List.take_length
  rw [hlen] at hk1 hk2
  have hcb : ∀ x y, ρ x y → w0.heap.size ≤ y := by
    intro x y hxy
    by_cases hy : y < (w0.alloc o).heap.size
    · have := h.old x y hxy hy; omega
    · simp at hy; omega
  have hown := owns_rel h.wrel (base' := w0.heap.size) hw.own v6 (plainV_flat _) hcb
  rw [hlen] at hown
  have hkin : Kin w0 w1 := by
    have hsz := h.grow
    simp at hsz
    refine ⟨h.os, h.out, by omega, fun k hk => ?_⟩
    rw [h.keep k (by simp; omega) (by omega)]
    exact (World.grownBy_alloc w0 o none).block k hk (by simp)
  -- the steps
  have hhere := h.here
  rw [hfr] at hhere
  have hfin : ((base0 40).at { tmps := fr'.tmps, defers := [] } recvK).finish (recvd true z' false) = (base0 40).at (Act.put { tmps := fr'.tmps, defers := [] } (some 16) (.tuple #[z', .bool false])) (.inRegion ops8 [1] :: .code tkItem :: loopK) := by
    unfold recvK
    rw [Frame.finish_at]
    rfl
  rw [hfin] at hhere
  subst hhere
  have s2 : ∀ w2, step Tryz.prog (lone ((base0 40).at (Act.put { tmps := fr'.tmps, defers := [] } (some 16) (.tuple #[z', .bool false])) (.inRegion ops8 [1] :: .code tkItem :: loopK)) cs w2) = _ := fun w2 =>
    lone_value (P := Tryz.prog) (b := base0 40) (a := Act.put { tmps := fr'.tmps, defers := [] } (some 16) (.tuple #[z', .bool false])) (k := .code tkItem :: loopK) (cs := cs) (ops := ops8) (i := 1) (rest := []) (w := w2) (w' := w2) (v := .bool false)
      (o := { dst := some 17, op := Op.extract (Operand.tmp 16) 1, type := 4, pos := "lex.go:119", after := #[{ on := 0, ground := Ground.data }], guard := none }) rfl rfl (extract_pair _ z' (.bool false) 16 _ _ rfl (by simp [Act.put, hsize]))
  refine head1 hP s2 ?_
  refine head1 hP (fun w => step_region_end) ?_
  obtain ⟨t0, t1, t2, t3, t4, t5, t8, t9, t10, t11, t12, t13, t14, t18, t19, t20, t21, t22, t23, t24, t25, t26, t27, t28, t29, t30, t31, t32, t33, t34, t35, he⟩ := tokA_open ha' (.tuple #[z', .bool false]) (.bool false)
  rw [he]
  obtain ⟨cnd, x1, y1, hitem⟩ : ∃ x1 y1 z1, tkItem = .seq (.cond (.tmp 17) x1 (.exit 0)) y1 ∧ z1 = 0 := ⟨_, _, _, rfl, rfl⟩
  obtain ⟨hitem, _⟩ := hitem
  rw [hitem]
  refine head1 hP (fun w => step_seq) ?_
  refine head1 hP (fun w => step_cond (t := false) rfl) ?_
  refine head1 hP (fun w => step_exit (k' := [.code tkEnd]) rfl) ?_
  exact tailB_lone hP Tryz.func40 (fun _ h => h) (fun T d => tkEnd_wp s w0 w1 b' c' sl' _ hs hkin hk1 hk2 hown T d t0 t1 t2 t3 t4 t5 t8 t9 t10 t11 t12 t13 t14 t18 t19 t20 t21 t22 t23 t24 t25 t26 t27 t28 t29 t30 t31 t32 t33 t34 t35) cs
end Go.Proofs.YtonmcakdofbjiaaGreatDoor
namespace Go.Proofs.YtonmcakdofbjiaaGreatDoor
open Go.RowKit Go.Bsd Go.Conc
def chAct (s : ByteArray) (c : Nat) : Act :=
  { tmps := #[.string s, undef, .slice none 0 0, .int .i64 0, .int .i64 0, .chan (some c), undef, undef, undef, .string s, .int .i64 s.size, .bool false, .chan (some c), undef, undef, undef, undef, undef, undef, undef, undef, undef, undef, undef, undef, undef, undef, undef, undef, undef, undef, undef, undef, undef, undef, undef], defers := [] }
theorem tkGo_is : ∃ id, tkGo = .region id (regOps tkGo) false ∧ (regOps tkGo).size = 3 := ⟨_, rfl, rfl⟩
def goOper : Oper := { dst := none, op := Op.go { callee := Callee.value (Operand.func 77), args := #[Operand.tmp 13, Operand.tmp 14], argTypes := #[9, 188] }, type := 0, pos := "lex.go:116", after := #[{ on := 0, ground := Ground.data }, { on := 1, ground := Ground.data }], guard := none }
theorem go_spawn (s : ByteArray) (c : Nat) (cs : List Frame) (w : World) :
    stepG Tryz.prog true (Go.Conc.G ((base0 40).at (goAct s c) [.inRegion (regOps tkGo) [2], .code tk4]) cs) w = .spawn (Go.Conc.G (frc s c) cs) (born Tryz.prog (cutCall s c)) w #[] := by
  have hr : (execOp (goAct s c).eval goOper).runT Tryz.prog w #[] = (.ok (.spawn (cutCall s c)) w, #[]) := by
    simp [execOp, goOper, resolve, evalT, goAct, cutCall, Sem.runT, Deferred.ofValue, Act.eval]
  have he1 : (execOp (goAct s c).eval goOper).run Tryz.prog w = .ok (.spawn (cutCall s c)) w := by rw [← Sem.runT_fst (es := #[]), hr]
  have he2 : (execOp (goAct s c).eval goOper).events Tryz.prog w #[] = #[] := by unfold Sem.events; rw [hr]
  have := stepG_spawn (P := Tryz.prog) (main := true) (b := base0 40) (a := goAct s c) (k := [.code tk4]) (cs := cs) (w := w) (ops := regOps tkGo) (i := 2) (rest := []) (o := goOper) (d := cutCall s c) (w' := w) rfl rfl (by simp [base0]) he1 rfl
  rw [listed_none he2] at this
  exact this
theorem xc_free (s : ByteArray) (f : FuncId) (c : Nat) : TapeFree (Xc s f c) := fun g w T d ⟨a, b, sl, h1, h2, h3⟩ =>
  let ⟨x0, x1, x2, x3, h⟩ := h3.bad
  ⟨a, b, sl, h1, h2, h3.chan, h3.own, ⟨x0, x1, x2, x3, h.c0, h.c1, h.c2, h.c3, h.c4, h.c5, h.f0, h.f1, h.f2, h.f3, h.f4, h.f5⟩, h3.lt, h3.ltc⟩
theorem xc_recv (s : ByteArray) (f : FuncId) (c : Nat) : ∀ g v, Xc s f c g v → AtRecv Tryz.prog f c ((pieces s).length + 1) g v := by
  rintro g v ⟨a, b, sl, rfl, h2, h3⟩
  refine ⟨_, zeroItem, true, rfl, rfl, fun T d => recv_comm s c b sl a _ h2 _, ?_⟩
  have := h3.chan
  rw [List.drop_length] at this
  exact ⟨_, _, this⟩
theorem tame_recvK (a : Act) : TameF ((base0 40).at a recvK) := by
  intro i hi
  have : i ∈ recvK := hi
  simp only [recvK, loopK, List.mem_cons, List.not_mem_nil, or_false] at this
  rcases this with rfl | rfl | rfl | rfl | rfl <;> trivial
theorem tok_pipe (hP : TameProg Tryz.prog) (s : ByteArray) (hs : ¬ 8192 < s.size) (w0 : World) (hv : VarsOk w0) (cs : List Frame) :
    Bes Tryz.prog (Leav Tryz.prog 40 (TokPost s w0) cs) (Go.Conc.G ((base0 40).at (goAct s w0.heap.size) [.inRegion (regOps tkGo) [2], .code tk4]) cs) (w0.alloc (.chan 16 #[] false 0 0 false)) := by
  intro hr ht
  have hvW : VarsOk (w0.alloc (.chan 16 #[] false 0 0 false)) := by
    have g := World.grownBy_alloc w0 (.chan 16 #[] false 0 0 false) none
    exact hv.kin ⟨rfl, rfl, g.size, fun k hk => g.block k hk (by simp)⟩
  have hsz := hv.size
  have h9z : 9 < w0.heap.size := by obtain ⟨_, _, _, _, q⟩ := hv.far 9 (.inr rfl); exact lt_of_some q
  obtain ⟨o8, o9, ⟨t8, p8, h8⟩, ⟨t9, p9, h9⟩, hz9, hGW⟩ := hvW.stands
  have hcl : w0.heap.size < (w0.alloc (.chan 16 #[] false 0 0 false)).heap.size := by simp
  have hclp : w0.heap.size < (farW (w0.alloc (.chan 16 #[] false 0 0 false)) o8 o9).heap.size := by rw [farW_size]; exact hcl
  have hlen : ((pieces s).map Item.v).length = (pieces s).length := List.length_map _
  have hpl := pieces_length s
  have hMp := cut_lone s 40 w0.heap.size (farW (w0.alloc (.chan 16 #[] false 0 0 false)) o8 o9) (by omega) hclp _ _ h8 h9 ⟨_, _, rfl⟩ ⟨_, _, rfl⟩ (by omega) (by omega)
  have hMc := tok_lone s 40 w0.heap.size (w0.alloc (.chan 16 #[] false 0 0 false)) (by omega) hcl
  rw [← hlen] at hMp hMc
  refine (bes_pipe (P := Tryz.prog) (f := 40) (c := w0.heap.size) (cap := 16) (L := (pieces s).map Item.v) (l0 := cs) (Gb := fun y => y = 5 ∨ y = 6 ∨ y = 7 ∨ y = 8 ∨ y = 9) (W := w0.alloc (.chan 16 #[] false 0 0 false)) (Wp := farW (w0.alloc (.chan 16 #[] false 0 0 false)) o8 o9) (Xc := Xc s 40 w0.heap.size) (Xp := Xp s 40 w0.heap.size (farW (w0.alloc (.chan 16 #[] false 0 0 false)) o8 o9))
    (ts := #[188]) (ty := 0) (cn := #[false]) hP prod_sim nobody_sim ?_ rfl (fun T d => go_spawn s _ cs _) (cut_pre s _) (frel_prod s _ _) rfl rfl ?_ (frel_cons s _) rfl ?_ ht.2 (by decide) (heap_alloc_new w0 _) ?_ (fun g hg => by simpa [inG, prodG] using hg) hGW (farW_size _ _ _) rfl (by omega) hMp hMc (xp_free _ _ _ _) (xc_free _ _ _) ?_ ?_ ?_ ?_).bind ?_ hr ht
  · intro x hx
    obtain ⟨y, _, rfl⟩ := List.mem_map.1 hx
    exact plainV_item y
  · intro i hi
    have : i = .code cutRest := List.mem_singleton.1 hi
    subst this
    trivial
  · intro i hi
    have hi : i ∈ [.inRegion (regOps tkGo) [], .code tk4] := hi
    simp only [List.mem_cons, List.not_mem_nil, or_false] at hi
    rcases hi with rfl | rfl <;> trivial
  · intro g hg
    exact absurd hg (by simp [inG])
  · intro g v hx
    have := xp_close s 40 w0.heap.size _ g v hx
    exact this
  · rintro g v ⟨fr, h1, h2, h3, h4, h5, h6⟩ y hy hyc
    exact h5 y (by rw [farW_size]; omega) hyc
  · intro g v hx
    rw [hlen]
    exact xc_recv s _ _ g v hx
  · rintro g v ⟨a, b, sl, rfl, _⟩
    exact tame_recvK a
  · rintro g w1 ⟨ρ, fr, fr', z, z', ok, v, hE⟩
    exact tok_tail hP s 40 w0.heap.size w0 _ cs hs rfl ⟨_, rfl⟩ hE
theorem tok_go (hP : TameProg Tryz.prog) (s : ByteArray) (hs : ¬ 8192 < s.size) (w0 : World) (hv : VarsOk w0) :
    tailB Tryz.prog 40 (TokPost s w0) (seqR tk2) (chAct s w0.heap.size) (w0.alloc (.chan 16 #[] false 0 0 false)) := by
  intro cs
  have e : seqR tk2 = .seq tkGo tk4 := rfl
  rw [e]
  obtain ⟨id, hid, h3⟩ := tkGo_is
  refine head1 hP (fun w => step_seq) ?_
  have hreg : ∀ w, step Tryz.prog (lone ((base0 40).at (chAct s w0.heap.size) [.code tkGo, .code tk4]) cs w) = .next (lone ((base0 40).at (chAct s w0.heap.size) [.inRegion (regOps tkGo) [0, 1, 2], .code tk4]) cs w) := fun w => by
    have := step_region (P := Tryz.prog) (b := base0 40) (a := chAct s w0.heap.size) (k := [.code tk4]) (cs := cs) (w := w) (ops := regOps tkGo) (id := id)
    rw [← hid, h3] at this
    exact this
  refine head1 hP hreg ?_
  have m1 : ∀ w, step Tryz.prog (lone ((base0 40).at (chAct s w0.heap.size) [.inRegion (regOps tkGo) [0, 1, 2], .code tk4]) cs w) = _ := fun w =>
    lone_value (P := Tryz.prog) (b := base0 40) (a := chAct s w0.heap.size) (k := [.code tk4]) (cs := cs) (ops := regOps tkGo) (i := 0) (rest := [1, 2]) (w := w) (w' := w) (v := .string s)
      (o := { dst := some 13, op := Op.move (Operand.tmp 0), type := 9, pos := "lex.go:116", after := #[], guard := none }) rfl rfl (by simp [execOp, evalT, chAct])
  refine head1 hP m1 ?_
  have m2 : ∀ w, step Tryz.prog (lone ((base0 40).at ((chAct s w0.heap.size).put (some 13) (.string s)) [.inRegion (regOps tkGo) [1, 2], .code tk4]) cs w) = _ := fun w =>
    lone_value (P := Tryz.prog) (b := base0 40) (a := (chAct s w0.heap.size).put (some 13) (.string s)) (k := [.code tk4]) (cs := cs) (ops := regOps tkGo) (i := 1) (rest := [2]) (w := w) (w' := w) (v := .chan (some w0.heap.size))
      (o := { dst := some 14, op := Op.move (Operand.tmp 5), type := 136, pos := "lex.go:116", after := #[], guard := none }) rfl rfl (by simp [execOp, evalT, chAct, Act.put])
  refine head1 hP m2 ?_
  exact tok_pipe hP s hs w0 hv cs
theorem make16 (w : World) : (Instr.makeChan 136 (.int .i64 16)).run Tryz.prog w = .ok (.chan (some w.heap.size)) (w.alloc (.chan 16 #[] false 0 0 false)) := by
  obtain ⟨i0, hi, hz0, hz1, hz2⟩ := info_parts info142
  simp [Instr.makeChan, run_underlying u136, typeInfo, hi, hz2, go_sem]
set_option maxRecDepth 100000 in
theorem tokens_any (hP : TameProg Tryz.prog) (s : ByteArray) (hs : s.size ≤ 9223372036854775807) (w : World) (hv : VarsOk w) : CallsB Tryz.prog 40 #[.string s] w (TokPost s w) := by
  refine callsB_of_tailB Tryz.func40 (c := tk0) rfl ?_
  have e0 : tk0 = .seq (seqL tk0) (.seq (seqL (seqR tk0)) (.seq (seqL tk2) (seqR tk2))) := rfl
  rw [e0]
  have ha : (#[Value.string s] ++ Array.replicate (Tryz.f40.ntmps - #[Value.string s].size) undef) = #[.string s, undef, undef, undef, undef, undef, undef, undef, undef, undef, undef, undef, undef, undef, undef, undef, undef, undef, undef, undef, undef, undef, undef, undef, undef, undef, undef, undef, undef, undef, undef, undef, undef, undef, undef, undef] := by
    simp only [Tryz.ntmps40]
    simp [Array.replicate_succ]
  rw [ha]
  have hR : ∀ w', ¬ TokPost s w .outgrown w' := fun w' h => h
  refine tailB_seq hP Tryz.func40 hR (wpB_lift hP fun T d => ?_)
  generalize hB : bodyPost Tryz.prog Tryz.f40 (TokPost s w) = B
  generalize hY : (Code.seq (seqL (seqR tk0)) (.seq (seqL tk2) (seqR tk2))) = Y
  simp only [seqL, tk0, Tryz.f40, Option.getD_some]
  go_wp2
  subst hY
  refine tailB_seq hP Tryz.func40 hR (wpB_lift hP fun T d => ?_)
  subst hB
  generalize hB : bodyPost Tryz.prog Tryz.f40 (TokPost s w) = B
  have HB := Lib.hid hB
  clear hB
  generalize hY : (Code.seq (seqL tk2) (seqR tk2)) = Y
  simp only [seqL, seqR, tk0, Tryz.f40, Option.getD_some]
  have HV := Lib.hid hv
  clear hv
  by_cases hlen : 8192 < s.size
  · have hq : decide ((8192 : Int) < ↑s.size) = true := by simp; omega
    have HL := Lib.hid hlen
    clear hlen
    go_wp2
    rw [← HB.out]
    refine ⟨rfl, _, res40 _ _ _ _ rfl rfl rfl _, ⟨rfl, rfl, Nat.le_refl _, fun _ _ => rfl⟩, ?_⟩
    unfold TokRes
    rw [if_pos HL.out]
    rfl
  · have hq : decide ((8192 : Int) < ↑s.size) = false := by simp; omega
    have HL := Lib.hid hlen
    clear hlen
    go_wp2
    subst hY
    refine tailB_seq hP Tryz.func40 hR (wpB_lift hP fun T2 d2 => ?_)
    rw [show re (re w T d) T2 d2 = re w T2 d2 from rfl]
    have hgo := tok_go hP s HL.out w HV.out
    have HGO := Lib.hid hgo
    clear hgo
    rw [HB.out]
    generalize hX : seqR tk2 = X at HGO ⊢
    clear hX
    simp only [seqL, seqR, tk2, tk0, Tryz.f40, Option.getD_some]
    have hm := make16 (re w T2 d2)
    go_wp2
    exact HGO.out
end Go.Proofs.YtonmcakdofbjiaaGreatDoor
