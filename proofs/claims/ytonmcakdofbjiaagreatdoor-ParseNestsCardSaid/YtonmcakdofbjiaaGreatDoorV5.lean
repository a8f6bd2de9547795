/-
  The parts: Lan9
-/
import Derived.Test.YtonmcakdofbjiaaGreatDoorV4
set_option linter.unusedVariables false
set_option linter.unusedSimpArgs false
set_option linter.unusedSectionVars false
set_option linter.unnecessarySimpa false
set_option maxRecDepth 100000
set_option maxHeartbeats 8000000
namespace Go.Proofs.YtonmcakdofbjiaaGreatDoor
open Go.RowKit
/-! ### plain functions -/
def uptoF (pred : Int -> Bool) (s : ByteArray) : Nat -> Nat -> Nat
 | 0, i => i
 | f + 1, i => if h : i < s.size then (if pred (s[i]).toNat then uptoF pred s f (i + 1) else i) else i
def upto (pred : Int -> Bool) (s : ByteArray) (i : Nat) : Nat := uptoF pred s (s.size - i) i
theorem uptoF_ge (pred : Int -> Bool) (s : ByteArray) : ∀ f i, i <= uptoF pred s f i := by
 intro f
 induction f with
 | zero => intro i; exact Nat.le_refl _
 | succ f ih =>
   intro i
   unfold uptoF
   split
   · split
     · exact Nat.le_trans (Nat.le_succ i) (ih (i + 1))
     · exact Nat.le_refl _
   · exact Nat.le_refl _
theorem upto_of {pred : Int -> Bool} {s : ByteArray} {i k : Nat} (h : Upto pred s i k) : k = upto pred s i := by
 obtain ⟨h1, h2, h3, h4⟩ := h
 have key : ∀ f i, i <= k -> k - i <= f -> (∀ (j : Nat) (h : j < s.size), i <= j -> j < k -> pred s[j].toNat = true) -> uptoF pred s f i = k := by
   intro f
   induction f with
   | zero => intro i a b _; unfold uptoF; omega
   | succ f ih =>
     intro i a b c
     unfold uptoF
     by_cases e : i = k
     · subst e
       split
       · rename_i hlt; rw [if_neg (by simp [h4 hlt])]
       · rfl
     · have hlt : i < s.size := by omega
       rw [dif_pos hlt, if_pos (c i hlt (Nat.le_refl _) (by omega))]
       exact ih (i + 1) (by omega) (by omega) fun j hj x y => c j hj (by omega) y
 exact (key (s.size - i) i h1 (by omega) h3).symm
theorem upto_spec (pred : Int -> Bool) (s : ByteArray) (i : Nat) (hi : i <= s.size) : Upto pred s i (upto pred s i) := by
 have key : ∀ f i, i <= s.size -> s.size - i <= f -> Upto pred s i (uptoF pred s f i) := by
   intro f
   induction f with
   | zero =>
     intro i a b
     unfold uptoF
     exact ⟨Nat.le_refl _, a, fun j _ h1 h2 => by omega, fun h => by omega⟩
   | succ f ih =>
     intro i a b
     unfold uptoF
     split
     · rename_i hlt
       split
       · rename_i hp
         obtain ⟨x1, x2, x3, x4⟩ := ih (i + 1) (by omega) (by omega)
         refine ⟨by omega, x2, fun j hj h1 h2 => ?_, x4⟩
         by_cases e : j = i
         · subst e; exact hp
         · exact x3 j hj (by omega) h2
       · rename_i hp
         exact ⟨Nat.le_refl _, a, fun j _ h1 h2 => by omega, fun _ => by simpa using hp⟩
     · exact ⟨Nat.le_refl _, a, fun j _ h1 h2 => by omega, fun h => absurd h (by assumption)⟩
 exact key _ i hi (Nat.le_refl _)
def skipF (s : ByteArray) : Nat -> Nat -> Nat
 | 0, i => i
 | f + 1, i => if h : i < s.size then (if isBlank (s[i]).toNat then skipF s f (i + 1) else if (s[i]).toNat = 35 then skipF s f (upto isLine s i) else i) else i
def skipTo (s : ByteArray) (i : Nat) : Nat := skipF s (s.size - i) i
theorem skip_of {s : ByteArray} {i k : Nat} (h : Skips s i k) (hk : k <= s.size) (hend : ∀ h : k < s.size, isBlank (s[k]).toNat = false /\ (s[k]).toNat ≠ 35) : ∀ f, s.size - i <= f -> i <= k /\ skipF s f i = k := by
 induction h with
 | here k =>
   intro f hf
   refine ⟨Nat.le_refl _, ?_⟩
   cases f with
   | zero => rfl
   | succ f =>
     unfold skipF
     split
     · rename_i hlt
       obtain ⟨a, b⟩ := hend hlt
       rw [if_neg (by simp [a]), if_neg b]
     · rfl
 | @blank i k hlt hb _ ih =>
   intro f hf
   cases f with
   | zero => omega
   | succ f =>
     obtain ⟨a, b⟩ := ih hk hend f (by omega)
     unfold skipF
     rw [dif_pos hlt, if_pos hb]
     exact ⟨by omega, b⟩
 | @remark i j k hlt hb hj _ ih =>
   intro f hf
   cases f with
   | zero => omega
   | succ f =>
     have hij : i < j := by
       rcases Nat.lt_or_ge i j with h | h
       · exact h
       · exfalso
         have e : i = j := Nat.le_antisymm hj.1 h
         subst e
         have := hj.2.2.2 hlt
         simp [isLine, hb] at this
     obtain ⟨a, b⟩ := ih hk hend f (by omega)
     unfold skipF
     rw [dif_pos hlt, if_neg (by simp [isBlank, hb]), if_pos hb, <- upto_of hj]
     exact ⟨by omega, b⟩
structure Item where
 kind : Int
 text : ByteArray
 num : Int
 pos : Int
 code : Int
 place : Int
def Item.v (x : Item) : Value := itemV x.kind x.text x.num x.pos x.code x.place
def noItem : Item := ⟨0, ⟨#[]⟩, 0, 0, 0, 0⟩
def wordAt (s : ByteArray) (i : Nat) : Item := if 16 < upto isAlnum s i - i then ⟨0, ⟨#[]⟩, 0, 0, 21, i⟩ else ⟨0, s.extract i (upto isAlnum s i), 0, i, 0, 0⟩
def letterAt (s : ByteArray) (i : Nat) : Bool := if h : i < s.size then isLetter (s[i]).toNat else false
def digitAt (s : ByteArray) (i : Nat) : Bool := if h : i < s.size then isDigit (s[i]).toNat else false
def numAt (s : ByteArray) (i : Nat) : Item :=
 if (numOf (s.extract i (upto isDigit s i))).2 ≠ 0 \/ letterAt s (upto isDigit s i) = true then ⟨0, ⟨#[]⟩, 0, 0, 22, i⟩ else ⟨1, s.extract i (upto isDigit s i), (numOf (s.extract i (upto isDigit s i))).1, i, 0, 0⟩
def itemAt (s : ByteArray) (i : Nat) : Item :=
 if letterAt s i then wordAt s i else if digitAt s i then numAt s i else if (signAt s i).toList.isEmpty then ⟨0, ⟨#[]⟩, 0, 0, 20, i⟩ else ⟨2, signAt s i, 0, i, 0, 0⟩
theorem afterD (s : ByteArray) (i : Nat) (w : World) (hi : i <= s.size) (hs : s.size <= 8796093022207) :
   Calls Tryz.prog 147 #[.string s, .int .i64 i, .func (.func 149) #[] #[]] w fun e w' => e = .returned (.int .i64 (upto isDigit s i)) /\ w' = w :=
 (after_digit s i w hi hs).mono fun e w' ⟨⟨k, hk, he⟩, hw⟩ => ⟨by rw [he, upto_of hk], hw⟩
theorem extract_get (s : ByteArray) (i k j : Nat) (hk : k <= s.size) (h : j < (s.extract i k).size) : ∃ h2 : i + j < s.size, (s.extract i k)[j] = s[i + j] := by
 have hz : (s.extract i k).size = k - i := by simp [ByteArray.size_extract]; omega
 refine ⟨by omega, ?_⟩
 simp [ByteArray.getElem_extract]
theorem k1_any (s : ByteArray) (i : Nat) (b : Nat) (w : World) (hb : w.cell? ⟨b, 0, none⟩ = some (.string s)) (hi : i < s.size) (hs : s.size <= 8796093022207) :
   Calls Tryz.prog 145 #[.int .i64 i, .pointer (some ⟨b, 0, none⟩)] w fun e w' => e = .returned (.tuple #[(if letterAt s i then wordAt s i else noItem).v, .bool (letterAt s i)]) /\ Below w.heap.size w w' := by
 refine (kind1_any s i b w hb hi hs).mono ?_
 rintro e w' ⟨h, hb⟩
 refine ⟨?_, hb⟩
 rcases h with ⟨h1, rfl⟩ | ⟨h1, k, hk, ⟨h2, rfl⟩ | ⟨h2, rfl⟩⟩
 · simp [letterAt, hi, h1, noItem, Item.v]
 · have := upto_of hk
   subst this
   simp [letterAt, hi, h1, Item.v, wordAt, h2]
 · have := upto_of hk
   subst this
   have : ¬ 16 < upto isAlnum s i - i := by omega
   simp [letterAt, hi, h1, Item.v, wordAt, this]
structure Six (w : World) (n : Nat) (x0 x1 x2 x3 x4 x5 : Value) : Prop where
 c0 : w.cell? ⟨n, 0, none⟩ = some x0
 c1 : w.cell? ⟨n, 1, none⟩ = some x1
 c2 : w.cell? ⟨n, 2, none⟩ = some x2
 c3 : w.cell? ⟨n, 3, none⟩ = some x3
 c4 : w.cell? ⟨n, 4, none⟩ = some x4
 c5 : w.cell? ⟨n, 5, none⟩ = some x5
 f0 : w.frozen? ⟨n, 0, none⟩ = false
 f1 : w.frozen? ⟨n, 1, none⟩ = false
 f2 : w.frozen? ⟨n, 2, none⟩ = false
 f3 : w.frozen? ⟨n, 3, none⟩ = false
 f4 : w.frozen? ⟨n, 4, none⟩ = false
 f5 : w.frozen? ⟨n, 5, none⟩ = false
theorem six_new (w : World) (t : TypeId) (x0 x1 x2 x3 x4 x5 : Value) : Six (w.alloc (.cells #[x0, x1, x2, x3, x4, x5] t)) w.heap.size x0 x1 x2 x3 x4 x5 := by
 constructor <;> simp [go_sem]
theorem Six.later {w w' : World} {n B : Nat} {x0 x1 x2 x3 x4 x5 : Value} (h : Six w n x0 x1 x2 x3 x4 x5) (hb : Below B w w') (hn : n < B) : Six w' n x0 x1 x2 x3 x4 x5 :=
 ⟨(hb.cell (p := ⟨n, 0, none⟩) hn).trans h.c0, (hb.cell (p := ⟨n, 1, none⟩) hn).trans h.c1, (hb.cell (p := ⟨n, 2, none⟩) hn).trans h.c2, (hb.cell (p := ⟨n, 3, none⟩) hn).trans h.c3, (hb.cell (p := ⟨n, 4, none⟩) hn).trans h.c4, (hb.cell (p := ⟨n, 5, none⟩) hn).trans h.c5,
   (hb.frozen (p := ⟨n, 0, none⟩) hn).trans h.f0, (hb.frozen (p := ⟨n, 1, none⟩) hn).trans h.f1, (hb.frozen (p := ⟨n, 2, none⟩) hn).trans h.f2, (hb.frozen (p := ⟨n, 3, none⟩) hn).trans h.f3, (hb.frozen (p := ⟨n, 4, none⟩) hn).trans h.f4, (hb.frozen (p := ⟨n, 5, none⟩) hn).trans h.f5⟩
theorem itemB {w w' : World} {b : Nat} {sv : Value} {t : TypeId} {x0 x1 x2 x3 x4 x5 : Value} (hbb : Below (w.alloc (.cells #[x0, x1, x2, x3, x4, x5] t)).heap.size (w.alloc (.cells #[x0, x1, x2, x3, x4, x5] t)) w') (hbl : b < w.heap.size) (hb : w.cell? ⟨b, 0, none⟩ = some sv) :
   w'.cell? ⟨b, 0, none⟩ = some sv /\ Six w' w.heap.size x0 x1 x2 x3 x4 x5 /\ w.heap.size < w'.heap.size /\ Below w.heap.size w w' /\ b < w'.heap.size := by
 have hz := hbb.size
 have q := bcell hbb
 simp only [World.size_alloc] at hz q
 refine ⟨?_, (six_new w t x0 x1 x2 x3 x4 x5).later hbb (by simp), by omega, ((Below.refl _ w).alloc (Nat.le_refl _) _).trans (hbb.mono (by simp)), by omega⟩
 rw [q.1 _ _ (by omega), World.cell?_alloc_past _ _ _ hbl]; exact hb
theorem below_six {w w' : World} {x0 x1 x2 x3 x4 x5 : Value} (h : Below w.heap.size w w') : Below w.heap.size w ((((((w'.setCell ⟨w.heap.size, 0, none⟩ x0).setCell ⟨w.heap.size, 1, none⟩ x1).setCell ⟨w.heap.size, 2, none⟩ x2).setCell ⟨w.heap.size, 3, none⟩ x3).setCell ⟨w.heap.size, 4, none⟩ x4).setCell ⟨w.heap.size, 5, none⟩ x5) :=
 (((((h.setCell (Nat.le_refl _) _).setCell (Nat.le_refl _) _).setCell (Nat.le_refl _) _).setCell (Nat.le_refl _) _).setCell (Nat.le_refl _) _).setCell (Nat.le_refl _) _
theorem k2_any (s : ByteArray) (i : Nat) (b : Nat) (w : World) (hb : w.cell? ⟨b, 0, none⟩ = some (.string s)) (hi : i < s.size) (hs : s.size <= 8796093022207) (e1 e2 : Value) (h8 : w.cell? ⟨8, 0, none⟩ = some e1) (h9 : w.cell? ⟨9, 0, none⟩ = some e2) (he1 : ∃ te pe, e1 = .iface te pe) (he2 : ∃ te pe, e2 = .iface te pe) :
   Calls Tryz.prog 150 #[.int .i64 i, .pointer (some ⟨b, 0, none⟩)] w fun e w' => e = .returned (.tuple #[(if digitAt s i then numAt s i else noItem).v, .bool (digitAt s i)]) /\ Below w.heap.size w w' := by
 have hbl : b < w.heap.size := by
   unfold World.cell? at hb
   rcases Nat.lt_or_ge b w.heap.size with h | h
   · exact h
   · rw [Array.getElem?_eq_none h] at hb; cases hb
 have hlt9 : 9 < w.heap.size := by
   unfold World.cell? at h9
   rcases Nat.lt_or_ge 9 w.heap.size with h | h
   · exact h
   · rw [Array.getElem?_eq_none h] at h9; cases h9
 by_cases hd : isDigit (s[i]).toNat = true
 · have hdi : digitAt s i = true := by simp [digitAt, hi, hd]
   rw [if_pos hdi, hdi]
   clear hdi
   have hU := upto_spec isDigit s i (by omega)
   unfold numAt
   have A := afterD s i
   generalize upto isDigit s i = k at hU A ⊢
   obtain ⟨x1, x2, x3, x4⟩ := hU
   have hik : i < k := by
     rcases Nat.lt_or_ge i k with h | h
     · exact h
     · have e : k = i := by omega
       subst e
       rw [x4 hi] at hd
       cases hd
   have hz : (s.extract i k).size = k - i := by simp [ByteArray.size_extract]; omega
   have W := fun w h8 h9 => wparse_any (s.extract i k) (by omega) (by omega) (fun j hj => by
     obtain ⟨h2, e⟩ := extract_get s i k j x2 hj
     rw [e]
     exact x3 (i + j) h2 (by omega) (by omega)) w e1 e2 h8 h9 he1 he2
   clear x3 x4
   have hL : letterAt s k = if h : k < s.size then isLetter (s[k]).toNat else false := rfl
   generalize numOf (s.extract i k) = nv at W ⊢
   obtain ⟨nv, ne⟩ := nv
   dsimp only at W ⊢
   by_cases hne : ne = 0
   · subst hne
     by_cases hlt : k < s.size
     · by_cases hl : isLetter (s[k]).toNat = true
       · rw [if_pos (.inr (by rw [hL, dif_pos hlt]; exact hl))]
         clear hL
         go_enter Tryz.func150, Tryz.ntmps150
         go_wp2_with (first | (go_at_call 149; refine (isDigit_any _ _).mono ?_; rintro e w' ⟨rfl, rfl⟩) | (go_at_call 147; refine (A _ (by omega) hs).mono ?_; rintro e w' ⟨rfl, rfl⟩) | (go_at_call 146; refine (letter_any _ _).mono ?_; rintro e w' ⟨rfl, rfl⟩) | (go_at_call 151; refine (W _ (by rw [World.cell?_alloc_past _ _ _ (by omega)]; exact h8) (by rw [World.cell?_alloc_past _ _ _ (by omega)]; exact h9)).mono ?_; rintro e w' ⟨rfl, hbb⟩; have q0 := (itemB hbb hbl hb).1; have q1 := (itemB hbb hbl hb).2.1; have z0 := q1.c0; have z1 := q1.c1; have z2 := q1.c2; have z3 := q1.c3; have z4 := q1.c4; have z5 := q1.c5; have g0 := q1.f0; have g1 := q1.f1; have g2 := q1.f2; have g3 := q1.f3; have g4 := q1.f4; have g5 := q1.f5; clear q1; have q2 := (itemB hbb hbl hb).2.2.1; have q3 := (itemB hbb hbl hb).2.2.2.1; have q4 := (itemB hbb hbl hb).2.2.2.2))
         refine bodyPost_ret (v := .tuple #[(⟨0, ⟨#[]⟩, 0, 0, 22, i⟩ : Item).v, .bool true]) (by simp [results, Tryz.f150, itemV, Item.v, go_sem, q2, z0, z1, z2, z3, z4, z5]; try rfl) rfl ?_
         exact ⟨rfl, below_six q3⟩
       · have hl' : isLetter (s[k]).toNat = false := by simpa using hl
         rw [if_neg (by rw [hL, dif_pos hlt, hl']; simp)]
         clear hL hl
         go_enter Tryz.func150, Tryz.ntmps150
         go_wp2_with (first | (go_at_call 149; refine (isDigit_any _ _).mono ?_; rintro e w' ⟨rfl, rfl⟩) | (go_at_call 147; refine (A _ (by omega) hs).mono ?_; rintro e w' ⟨rfl, rfl⟩) | (go_at_call 146; refine (letter_any _ _).mono ?_; rintro e w' ⟨rfl, rfl⟩) | (go_at_call 151; refine (W _ (by rw [World.cell?_alloc_past _ _ _ (by omega)]; exact h8) (by rw [World.cell?_alloc_past _ _ _ (by omega)]; exact h9)).mono ?_; rintro e w' ⟨rfl, hbb⟩; have q0 := (itemB hbb hbl hb).1; have q1 := (itemB hbb hbl hb).2.1; have z0 := q1.c0; have z1 := q1.c1; have z2 := q1.c2; have z3 := q1.c3; have z4 := q1.c4; have z5 := q1.c5; have g0 := q1.f0; have g1 := q1.f1; have g2 := q1.f2; have g3 := q1.f3; have g4 := q1.f4; have g5 := q1.f5; clear q1; have q2 := (itemB hbb hbl hb).2.2.1; have q3 := (itemB hbb hbl hb).2.2.2.1; have q4 := (itemB hbb hbl hb).2.2.2.2))
         refine bodyPost_ret (v := .tuple #[(⟨1, s.extract i k, nv, i, 0, 0⟩ : Item).v, .bool true]) (by simp [results, Tryz.f150, itemV, Item.v, go_sem, q2, z0, z1, z2, z3, z4, z5]; try rfl) rfl ?_
         exact ⟨rfl, below_six q3⟩
     · rw [if_neg (by rw [hL, dif_neg hlt]; simp)]
       clear hL
       go_enter Tryz.func150, Tryz.ntmps150
       go_wp2_with (first | (go_at_call 149; refine (isDigit_any _ _).mono ?_; rintro e w' ⟨rfl, rfl⟩) | (go_at_call 147; refine (A _ (by omega) hs).mono ?_; rintro e w' ⟨rfl, rfl⟩) | (go_at_call 146; refine (letter_any _ _).mono ?_; rintro e w' ⟨rfl, rfl⟩) | (go_at_call 151; refine (W _ (by rw [World.cell?_alloc_past _ _ _ (by omega)]; exact h8) (by rw [World.cell?_alloc_past _ _ _ (by omega)]; exact h9)).mono ?_; rintro e w' ⟨rfl, hbb⟩; have q0 := (itemB hbb hbl hb).1; have q1 := (itemB hbb hbl hb).2.1; have z0 := q1.c0; have z1 := q1.c1; have z2 := q1.c2; have z3 := q1.c3; have z4 := q1.c4; have z5 := q1.c5; have g0 := q1.f0; have g1 := q1.f1; have g2 := q1.f2; have g3 := q1.f3; have g4 := q1.f4; have g5 := q1.f5; clear q1; have q2 := (itemB hbb hbl hb).2.2.1; have q3 := (itemB hbb hbl hb).2.2.2.1; have q4 := (itemB hbb hbl hb).2.2.2.2))
       refine bodyPost_ret (v := .tuple #[(⟨1, s.extract i k, nv, i, 0, 0⟩ : Item).v, .bool true]) (by simp [results, Tryz.f150, itemV, Item.v, go_sem, q2, z0, z1, z2, z3, z4, z5]; try rfl) rfl ?_
       exact ⟨rfl, below_six q3⟩
   · have z1' : (ne == 0) = false := by rw [beq_eq_false_iff_ne]; exact hne
     have z2' : (ne != 0) = true := by simp [hne]
     rw [if_pos (.inl hne)]
     clear hL hne
     go_enter Tryz.func150, Tryz.ntmps150
     go_wp2_with (first | (go_at_call 149; refine (isDigit_any _ _).mono ?_; rintro e w' ⟨rfl, rfl⟩) | (go_at_call 147; refine (A _ (by omega) hs).mono ?_; rintro e w' ⟨rfl, rfl⟩) | (go_at_call 146; refine (letter_any _ _).mono ?_; rintro e w' ⟨rfl, rfl⟩) | (go_at_call 151; refine (W _ (by rw [World.cell?_alloc_past _ _ _ (by omega)]; exact h8) (by rw [World.cell?_alloc_past _ _ _ (by omega)]; exact h9)).mono ?_; rintro e w' ⟨rfl, hbb⟩; have q0 := (itemB hbb hbl hb).1; have q1 := (itemB hbb hbl hb).2.1; have z0 := q1.c0; have z1 := q1.c1; have z2 := q1.c2; have z3 := q1.c3; have z4 := q1.c4; have z5 := q1.c5; have g0 := q1.f0; have g1 := q1.f1; have g2 := q1.f2; have g3 := q1.f3; have g4 := q1.f4; have g5 := q1.f5; clear q1; have q2 := (itemB hbb hbl hb).2.2.1; have q3 := (itemB hbb hbl hb).2.2.2.1; have q4 := (itemB hbb hbl hb).2.2.2.2))
     refine bodyPost_ret (v := .tuple #[(⟨0, ⟨#[]⟩, 0, 0, 22, i⟩ : Item).v, .bool true]) (by simp [results, Tryz.f150, itemV, Item.v, go_sem, q2, z0, z1, z2, z3, z4, z5]; try rfl) rfl ?_
     exact ⟨rfl, below_six q3⟩
 · have hdi : digitAt s i = false := by simp [digitAt, hi]; simpa using hd
   rw [hdi]
   simp only [Bool.false_eq_true, if_false]
   have hd' : isDigit (s[i]).toNat = false := by simpa using hd
   clear hdi hd
   go_enter Tryz.func150, Tryz.ntmps150
   go_wp2_with (first | (go_at_call 149; refine (isDigit_any _ _).mono ?_; rintro e w' ⟨rfl, rfl⟩))
   refine bodyPost_ret (v := .tuple #[noItem.v, .bool false]) (by simp [results, Tryz.f150, itemV, noItem, Item.v, go_sem]; try rfl) rfl ?_
   exact ⟨rfl, by first | exact (Below.refl _ w).alloc (Nat.le_refl _) _ | exact ((Below.refl _ w).alloc (Nat.le_refl _) _).setCell (Nat.le_refl _) _⟩
end Go.Proofs.YtonmcakdofbjiaaGreatDoor
