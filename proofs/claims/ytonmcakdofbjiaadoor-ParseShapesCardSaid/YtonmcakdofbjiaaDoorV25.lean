/-
  The parts: base Shp5 base Shp6 base Shp7
-/
import Derived.Test.YtonmcakdofbjiaaDoorV24
import Derived.Deep.OwnRows
import Derived.Test.YtonmcakdofbjiaaDoorV23
import Derived.BigRegion
import Derived.Deep.RegionHeld3
import Derived.Deep.RegionLaw
set_option linter.unusedVariables false
set_option linter.unusedSimpArgs false
set_option linter.unusedSectionVars false
set_option linter.unnecessarySimpa false
set_option maxRecDepth 100000
set_option maxHeartbeats 8000000
namespace Go.Proofs.YtonmcakdofbjiaaDoor
open Go.RowKit
def WantsAt (w : World) (r gb : Nat) (v : Value) (l : List Int) : Prop :=
 ∃ b cap, v = .slice b l.length cap /\ l.length <= cap /\ (l ≠ [] -> ∃ g off, b = some ⟨g, off, none⟩ /\ g ≠ r /\ g ≠ gb /\ ∀ (i : Nat) (x : Int), l[i]? = some x -> w.cell? ⟨g, off + i, none⟩ = some (.int .i64 x))
def shF (gb n : Nat) (heads : Bool) : Nat -> Value
 | 0 => .slice (some ⟨gb, 0, none⟩) n 26
 | _ => .bool heads
structure ShM (w : World) (B r gb : Nat) (o : List Hold) (heads : Bool) : Prop where
 s : w.rowIs r 42 2 (shF gb o.length heads)
 row : ∃ F : Nat -> Value, w.rowIs gb 66 104 F /\ ∀ (j : Nat) (h : Hold), o[j]? = some h -> F (j * 4) = .int .i64 h.kind /\ F (j * 4 + 1) = .int .i64 h.depth /\ F (j * 4 + 3) = .int .i64 h.blocks /\ WantsAt w r gb (F (j * 4 + 2)) h.wants
 len : o.length <= 26
 ne : r ≠ gb
 hr : B <= r
 hg : B <= gb
section
variable {w w' : World} {B r gb : Nat} {o : List Hold} {heads : Bool}
theorem WantsAt.kept {v : Value} {l : List Int} (h : WantsAt w r gb v l) (hk : ∀ k, k < w.heap.size -> k ≠ r -> k ≠ gb -> w'.heap[k]? = w.heap[k]?) : WantsAt w' r gb v l := by
 obtain ⟨b, cap, h1, h2, h3⟩ := h
 refine ⟨b, cap, h1, h2, fun hl => ?_⟩
 obtain ⟨g, off, h4, h5, h6, h7⟩ := h3 hl
 refine ⟨g, off, h4, h5, h6, fun i x hx => ?_⟩
 have hc := h7 i x hx
 have hlt := World.block_lt_of_cell? w ⟨g, off + i, none⟩ hc
 exact (World.cell?_of_block (a := ⟨g, off + i, none⟩) (hk g hlt h5 h6)).trans hc
theorem ShM.kept (h : ShM w B r gb o heads) (hk : ∀ k, k < w.heap.size -> w'.heap[k]? = w.heap[k]?) : ShM w' B r gb o heads := by
 obtain ⟨F, h1, h2⟩ := h.row
 refine ⟨h.s.of_block (hk r h.s.lt), ⟨F, h1.of_block (hk gb h1.lt), fun j x hx => ?_⟩, h.len, h.ne, h.hr, h.hg⟩
 obtain ⟨a, b, c, d⟩ := h2 j x hx
 exact ⟨a, b, c, d.kept fun k hl _ _ => hk k hl⟩
theorem ShM.drewN (h : ShM w B r gb o heads) (n : Nat) : ShM (w.drewN n) B r gb o heads := h.kept fun _ _ => rfl
theorem ShM.kin (h : ShM w B r gb o heads) (k : Kin w w') : ShM w' B r gb o heads := h.kept k.block
theorem ShM.c0 (h : ShM w B r gb o heads) : w.cell? ⟨r, 0, none⟩ = some (.slice (some ⟨gb, 0, none⟩) o.length 26) := h.s.cell (i := 0) (by omega)
theorem ShM.c1 (h : ShM w B r gb o heads) : w.cell? ⟨r, 1, none⟩ = some (.bool heads) := h.s.cell (i := 1) (by omega)
theorem ShM.kind (h : ShM w B r gb o heads) {j : Nat} {x : Hold} (hx : o[j]? = some x) : w.cell? ⟨gb, j * 4, none⟩ = some (.int .i64 x.kind) := by
 obtain ⟨F, h1, h2⟩ := h.row
 have hj := (List.getElem?_eq_some_iff.1 hx).1
 have hl := h.len
 rw [h1.cell (by omega), (h2 j x hx).1]
theorem ShM.depth (h : ShM w B r gb o heads) {j : Nat} {x : Hold} (hx : o[j]? = some x) : w.cell? ⟨gb, j * 4 + 1, none⟩ = some (.int .i64 x.depth) := by
 obtain ⟨F, h1, h2⟩ := h.row
 have hj := (List.getElem?_eq_some_iff.1 hx).1
 have hl := h.len
 rw [h1.cell (by omega), (h2 j x hx).2.1]
theorem ShM.blocks (h : ShM w B r gb o heads) {j : Nat} {x : Hold} (hx : o[j]? = some x) : w.cell? ⟨gb, j * 4 + 3, none⟩ = some (.int .i64 x.blocks) := by
 obtain ⟨F, h1, h2⟩ := h.row
 have hj := (List.getElem?_eq_some_iff.1 hx).1
 have hl := h.len
 rw [h1.cell (by omega), (h2 j x hx).2.2.1]
theorem ShM.wants (h : ShM w B r gb o heads) {j : Nat} {x : Hold} (hx : o[j]? = some x) : ∃ v, w.cell? ⟨gb, j * 4 + 2, none⟩ = some v /\ WantsAt w r gb v x.wants := by
 obtain ⟨F, h1, h2⟩ := h.row
 have hj := (List.getElem?_eq_some_iff.1 hx).1
 have hl := h.len
 exact ⟨_, h1.cell (by omega), (h2 j x hx).2.2.2⟩
end
def ixV : Option Nat -> Int
 | some i => i
 | none => -1
theorem wanting_any {B r gb : Nat} {o : List Hold} {heads : Bool} (w : World) (h : ShM w B r gb o heads) : Calls Tryd.prog 13 #[.pointer (some ⟨r, 0, none⟩)] w fun e w' => e = .returned (.int .i64 (ixV (wantIx o))) /\ w' = w := by
 have c0 := h.c0
 have hl := h.len
 have HM := Lib.hid h
 clear h
 go_enter Tryd.func13, Tryd.ntmps13
 go_wp2
 go_loop [3] (fun c => ∃ x : Int, c = .int .i64 x /\ ((x = -1 /\ ∀ (j : Nat) (y : Hold), o[j]? = some y -> (!y.wants.isEmpty) = false) \/ ∃ i : Nat, x = i /\ i < o.length /\ ∀ (j : Nat) (y : Hold), i < j -> o[j]? = some y -> (!y.wants.isEmpty) = false)) (fun c => (intOf c + 1).toNat)
 case atStart =>
   refine ⟨(o.length : Int) - 1, by go_num, ?_⟩
   rcases Nat.eq_zero_or_pos o.length with h0 | h0
   · left
     refine ⟨by omega, fun j y hy => ?_⟩
     have := (List.getElem?_eq_some_iff.1 hy).1
     omega
   · right
     refine ⟨o.length - 1, by omega, by omega, fun j y hj hy => ?_⟩
     have := (List.getElem?_eq_some_iff.1 hy).1
     omega
 case round =>
   obtain ⟨x, rfl, hx⟩ := hrel
   rcases hx with ⟨rfl, hno⟩ | ⟨i, rfl, hi, hno⟩
   · have hw : wantIx o = none := lastIx_of_none hno
     clear hno
     go_wp2
     go_ret
     exact ⟨rfl, rfl⟩
   · obtain ⟨y, hy⟩ : ∃ y, o[i]? = some y := ⟨_, List.getElem?_eq_getElem hi⟩
     obtain ⟨v, hv, b, cap, rfl, hcap, hne⟩ := HM.out.wants hy
     have hnn : (0 : Int) <= i := by omega
     clear hne
     cases hyw : y.wants with
     | nil =>
       have hno2 : ∀ (j : Nat) (z : Hold), i <= j -> o[j]? = some z -> (!z.wants.isEmpty) = false := fun j z hj hz => by
         rcases Nat.lt_or_ge i j with h' | h'
         · exact hno j z h' hz
         · have : j = i := by omega
           subst this
           rw [hy] at hz; cases hz
           rw [hyw]; rfl
       have e0 : y.wants.length = 0 := by rw [hyw]; rfl
       rw [e0] at hv hcap
       clear hno hyw hy e0
       go_wp2
       refine ⟨⟨(i : Int) - 1, rfl, ?_⟩, by simp [intOf]⟩
       rcases Nat.eq_zero_or_pos i with h0 | h0
       · left
         exact ⟨by omega, fun j z hz => hno2 j z (by omega) hz⟩
       · right
         exact ⟨i - 1, by omega, by omega, fun j z hj hz => hno2 j z (by omega) hz⟩
     | cons a l =>
       have hw : wantIx o = some i := lastIx_of hy (by rw [hyw]; rfl) hno
       have e0 : 0 < y.wants.length := by rw [hyw]; simp
       generalize y.wants.length = n at e0 hv hcap
       have e1 : (0 : Int) < n := by omega
       clear hno hyw hy
       go_wp2
       go_ret
       exact ⟨rfl, rfl⟩
theorem held_any {B r gb : Nat} {o : List Hold} {heads : Bool} (d : Int) (w : World) (h : ShM w B r gb o heads) : Calls Tryd.prog 25 #[.pointer (some ⟨r, 0, none⟩), .int .i64 d] w fun e w' => e = .returned (.int .i64 (ixV (heldIx o d))) /\ w' = w := by
 have c0 := h.c0
 have hl := h.len
 have HM := Lib.hid h
 clear h
 go_enter Tryd.func25, Tryd.ntmps25
 go_wp2
 go_loop [5] (fun c => ∃ x : Int, c = .int .i64 x /\ ((x = -1 /\ ∀ (j : Nat) (y : Hold), o[j]? = some y -> decide (y.depth = d) = false) \/ ∃ i : Nat, x = i /\ i < o.length /\ ∀ (j : Nat) (y : Hold), i < j -> o[j]? = some y -> decide (y.depth = d) = false)) (fun c => (intOf c + 1).toNat)
 case atStart =>
   refine ⟨(o.length : Int) - 1, by go_num, ?_⟩
   rcases Nat.eq_zero_or_pos o.length with h0 | h0
   · left
     refine ⟨by omega, fun j y hy => ?_⟩
     have := (List.getElem?_eq_some_iff.1 hy).1
     omega
   · right
     refine ⟨o.length - 1, by omega, by omega, fun j y hj hy => ?_⟩
     have := (List.getElem?_eq_some_iff.1 hy).1
     omega
 case round =>
   obtain ⟨x, rfl, hx⟩ := hrel
   rcases hx with ⟨rfl, hno⟩ | ⟨i, rfl, hi, hno⟩
   · have hw : heldIx o d = none := lastIx_of_none hno
     clear hno
     go_wp2
     go_ret
     exact ⟨rfl, rfl⟩
   · obtain ⟨y, hy⟩ : ∃ y, o[i]? = some y := ⟨_, List.getElem?_eq_getElem hi⟩
     have hv := HM.out.depth hy
     have hnn : (0 : Int) <= i := by omega
     by_cases hyd : y.depth = d
     · have hw : heldIx o d = some i := lastIx_of hy (by simp [hyd]) hno
       have hd : (y.depth == d) = true := by simp [hyd]
       clear hno hyd hy
       go_wp2
       go_ret
       exact ⟨rfl, rfl⟩
     · have hno2 : ∀ (j : Nat) (z : Hold), i <= j -> o[j]? = some z -> decide (z.depth = d) = false := fun j z hj hz => by
         rcases Nat.lt_or_ge i j with h' | h'
         · exact hno j z h' hz
         · have : j = i := by omega
           subst this
           rw [hy] at hz; cases hz
           simp [hyd]
       have hd : (y.depth == d) = false := by simp [hyd]
       clear hno hyd hy
       go_wp2
       refine ⟨⟨(i : Int) - 1, rfl, ?_⟩, by simp [intOf]⟩
       rcases Nat.eq_zero_or_pos i with h0 | h0
       · left
         exact ⟨by omega, fun j z hz => hno2 j z (by omega) hz⟩
       · right
         exact ⟨i - 1, by omega, by omega, fun j z hj hz => hno2 j z (by omega) hz⟩
end Go.Proofs.YtonmcakdofbjiaaDoor
namespace Go.Proofs.YtonmcakdofbjiaaDoor
open Go.RowKit
structure Ap (r gb : Nat) (w w' : World) : Prop where
 os : w'.os = w.os
 out : w'.output = w.output
 size : w.heap.size <= w'.heap.size
 block : ∀ k, k < w.heap.size -> k ≠ r -> k ≠ gb -> w'.heap[k]? = w.heap[k]?
section
variable {r gb : Nat} {w w' w'' : World}
theorem Ap.refl (w : World) : Ap r gb w w := ⟨rfl, rfl, Nat.le_refl _, fun _ _ _ _ => rfl⟩
theorem Ap.trans (h : Ap r gb w w') (k : Ap r gb w' w'') : Ap r gb w w'' :=
 ⟨k.os.trans h.os, k.out.trans h.out, Nat.le_trans h.size k.size, fun j hj h1 h2 => (k.block j (Nat.lt_of_lt_of_le hj h.size) h1 h2).trans (h.block j hj h1 h2)⟩
theorem Ap.of_kin (k : Kin w w') : Ap r gb w w' := ⟨k.os, k.out, k.size, fun j hj _ _ => k.block j hj⟩
theorem Ap.set (h : Ap r gb w w') {a : Addr} (ha : a.block = r \/ a.block = gb) (v : Value) : Ap r gb w (w'.setCell a v) :=
 ⟨h.os, h.out, by simp [World.setCell]; exact h.size, fun j hj h1 h2 => (Go.Deep.blk_setCell_other _ _ _ _ (by rcases ha with e | e <;> rw [e] <;> assumption)).trans (h.block j hj h1 h2)⟩
theorem Ap.drewN (h : Ap r gb w w') (n : Nat) : Ap r gb w (w'.drewN n) := ⟨h.os, h.out, h.size, h.block⟩
theorem Ap.cell (h : Ap r gb w w') {n o : Nat} (hn : n < w.heap.size) (h1 : n ≠ r) (h2 : n ≠ gb) : w'.cell? ⟨n, o, none⟩ = w.cell? ⟨n, o, none⟩ := World.cell?_of_block (a := ⟨n, o, none⟩) (h.block n hn h1 h2)
theorem Ap.frozen (h : Ap r gb w w') {n o : Nat} (hn : n < w.heap.size) (h1 : n ≠ r) (h2 : n ≠ gb) : w'.frozen? ⟨n, o, none⟩ = w.frozen? ⟨n, o, none⟩ := World.frozen?_of_block (a := ⟨n, o, none⟩) (h.block n hn h1 h2)
end
section
variable {w w' : World} {B r gb : Nat} {o : List Hold} {heads : Bool}
theorem ShM.fs (h : ShM w B r gb o heads) (i : Nat) : w.frozen? ⟨r, i, none⟩ = false := h.s.frozen i
theorem ShM.fr (h : ShM w B r gb o heads) (i : Nat) : w.frozen? ⟨gb, i, none⟩ = false := by
 obtain ⟨F, h1, _⟩ := h.row
 exact h1.frozen i
theorem ShM.trunc (h : ShM w B r gb o heads) {m : Nat} (hm : m <= o.length) : ShM (w.setCell ⟨r, 0, none⟩ (.slice (some ⟨gb, 0, none⟩) m 26)) B r gb (o.take m) heads := by
 have hlen : (o.take m).length = m := by simp; omega
 obtain ⟨F, h1, h2⟩ := h.row
 refine ⟨(h.s.set 0 _).congr fun i hi => ?_, ⟨F, h1.setOther (fun e => h.ne e.symm) _, fun j x hx => ?_⟩, by have := h.len; omega, h.ne, h.hr, h.hg⟩
 · rw [hlen]
   match i, hi with
   | 0, _ => rfl
   | 1, _ => rfl
 · rw [List.getElem?_take] at hx
   split at hx
   · obtain ⟨a, b, c, d⟩ := h2 j x hx
     exact ⟨a, b, c, d.kept fun k _ h1 _ => Go.Deep.blk_setCell_other _ _ _ _ h1⟩
   · cases hx
theorem ShM.setHeads (h : ShM w B r gb o heads) (b : Bool) : ShM (w.setCell ⟨r, 1, none⟩ (.bool b)) B r gb o b := by
 obtain ⟨F, h1, h2⟩ := h.row
 refine ⟨(h.s.set 1 _).congr fun i hi => ?_, ⟨F, h1.setOther (fun e => h.ne e.symm) _, fun j x hx => ?_⟩, h.len, h.ne, h.hr, h.hg⟩
 · match i, hi with
   | 0, _ => rfl
   | 1, _ => rfl
 · obtain ⟨a, b, c, d⟩ := h2 j x hx
   exact ⟨a, b, c, d.kept fun k _ h1 _ => Go.Deep.blk_setCell_other _ _ _ _ h1⟩
theorem ShM.setBlocks (h : ShM w B r gb o heads) {u : Nat} {g : Hold} (hu : o[u]? = some g) (b : Int) : ShM (w.setCell ⟨gb, u * 4 + 3, none⟩ (.int .i64 b)) B r gb (o.set u { g with blocks := b }) heads := by
 obtain ⟨F, h1, h2⟩ := h.row
 have hul := (List.getElem?_eq_some_iff.1 hu).1
 refine ⟨by rw [List.length_set]; exact h.s.setOther h.ne _, ⟨_, h1.set (u * 4 + 3) _, fun j x hx => ?_⟩, by rw [List.length_set]; exact h.len, h.ne, h.hr, h.hg⟩
 rw [List.getElem?_set] at hx
 have keep : ∀ v l, WantsAt w r gb v l -> WantsAt (w.setCell ⟨gb, u * 4 + 3, none⟩ (.int .i64 b)) r gb v l := fun v l hv => hv.kept fun k _ _ h2 => Go.Deep.blk_setCell_other _ _ _ _ h2
 by_cases e : u = j
 · subst e
   rw [if_pos rfl, if_pos hul] at hx
   cases hx
   obtain ⟨a, b', c, d⟩ := h2 u g hu
   simp only [show ¬ u * 4 = u * 4 + 3 from by omega, show ¬ u * 4 + 1 = u * 4 + 3 from by omega, show ¬ u * 4 + 2 = u * 4 + 3 from by omega, if_false, if_true]
   exact ⟨a, b', trivial, keep _ _ d⟩
 · rw [if_neg e] at hx
   obtain ⟨a, b', c, d⟩ := h2 j x hx
   simp only [show ¬ j * 4 = u * 4 + 3 from by omega, show ¬ j * 4 + 1 = u * 4 + 3 from by omega, show ¬ j * 4 + 2 = u * 4 + 3 from by omega, show ¬ j * 4 + 3 = u * 4 + 3 from by omega, if_false]
   exact ⟨a, b', c, keep _ _ d⟩
theorem ShM.setWants (h : ShM w B r gb o heads) {u : Nat} {g : Hold} (hu : o[u]? = some g) {v : Value} {l : List Int} (hv : WantsAt w r gb v l) : ShM (w.setCell ⟨gb, u * 4 + 2, none⟩ v) B r gb (o.set u { g with wants := l }) heads := by
 obtain ⟨F, h1, h2⟩ := h.row
 have hul := (List.getElem?_eq_some_iff.1 hu).1
 refine ⟨by rw [List.length_set]; exact h.s.setOther h.ne _, ⟨_, h1.set (u * 4 + 2) _, fun j x hx => ?_⟩, by rw [List.length_set]; exact h.len, h.ne, h.hr, h.hg⟩
 rw [List.getElem?_set] at hx
 have keep : ∀ v' l, WantsAt w r gb v' l -> WantsAt (w.setCell ⟨gb, u * 4 + 2, none⟩ v) r gb v' l := fun v l hv => hv.kept fun k _ _ h2 => Go.Deep.blk_setCell_other _ _ _ _ h2
 by_cases e : u = j
 · subst e
   rw [if_pos rfl, if_pos hul] at hx
   cases hx
   obtain ⟨a, b', c, d⟩ := h2 u g hu
   simp only [show ¬ u * 4 = u * 4 + 2 from by omega, show ¬ u * 4 + 1 = u * 4 + 2 from by omega, show ¬ u * 4 + 3 = u * 4 + 2 from by omega, if_false, if_true]
   exact ⟨a, b', c, keep _ _ hv⟩
 · rw [if_neg e] at hx
   obtain ⟨a, b', c, d⟩ := h2 j x hx
   simp only [show ¬ j * 4 = u * 4 + 2 from by omega, show ¬ j * 4 + 1 = u * 4 + 2 from by omega, show ¬ j * 4 + 2 = u * 4 + 2 from by omega, show ¬ j * 4 + 3 = u * 4 + 2 from by omega, if_false]
   exact ⟨a, b', c, keep _ _ d⟩
theorem WantsAt.tail {v : Value} {x : Int} {l : List Int} (h : WantsAt w r gb v (x :: l)) : ∃ g off cap, v = .slice (some ⟨g, off, none⟩) (l.length + 1) cap /\ l.length + 1 <= cap /\ w.cell? ⟨g, off, none⟩ = some (.int .i64 x) /\ WantsAt w r gb (.slice (some ⟨g, off + 1, none⟩) l.length (cap - 1)) l /\ (cap <= 1 -> WantsAt w r gb (.slice (some ⟨g, off, none⟩) l.length 0) l) := by
 obtain ⟨b, cap, h1, h2, h3⟩ := h
 obtain ⟨g, off, rfl, h5, h6, h7⟩ := h3 (by simp)
 refine ⟨g, off, cap, h1, by simpa using h2, h7 0 x rfl, ⟨some ⟨g, off + 1, none⟩, cap - 1, rfl, by simp at h2; omega, fun _ => ⟨g, off + 1, rfl, h5, h6, fun i y hy => ?_⟩⟩, fun hc => ?_⟩
 · have := h7 (i + 1) y (by simpa using hy)
   rw [show off + (i + 1) = off + 1 + i from by omega] at this
   exact this
 · have hl : l = [] := List.eq_nil_of_length_eq_zero (by simp at h2; omega)
   subst hl
   exact ⟨some ⟨g, off, none⟩, 0, rfl, Nat.le_refl _, fun h => absurd rfl h⟩
end
end Go.Proofs.YtonmcakdofbjiaaDoor
namespace Go.Proofs.YtonmcakdofbjiaaDoor
open Go.RowKit
def StandPost (w : World) (B r gb : Nat) (o : List Hold) (heads : Bool) (n : Nd) (e : Ending) (w' : World) : Prop :=
 Ap r gb w w' /\ match standF o heads n with
 | none => e = .returned (.bool false)
 | some (o', h') => e = .returned (.bool true) /\ ShM w' B r gb o' h'
noncomputable def st0 : Code := (Tryd.f12.body.getD .skip)
noncomputable def stTail : Code := seqR (seqR (seqR st0))
theorem pop_take {o1 : List Hold} {m : Nat} {d : Int} (hm : m <= o1.length) (h1 : ∀ (j : Nat) (x : Hold), m <= j -> o1[j]? = some x -> d <= x.depth) (h2 : m = 0 \/ ∃ x, o1[m - 1]? = some x /\ x.depth < d) : popF d o1 = o1.take m := by
 unfold popF
 rw [cutN_of (k := m) (h2.imp id fun ⟨x, a, b⟩ => ⟨x, a, by simpa using b⟩) fun j y hj hy => by have := h1 j y hj hy; simp; omega]
theorem info157 : (Tryd.prog.info? 66).map (fun i => (i.zero, i.size, i.bytes)) = some (some (.agg #[.int .i64 0, .int .i64 0, .slice none 0 0, .int .i64 0]), 4, 48) := by kernel_rfl
theorem wanted_at (x : Int) (w : World) : Calls Tryd.prog 27 #[.int .i64 x] w fun e w' => ∃ b n cap, e = .returned (.slice b n cap) /\ Kin w w' /\ ∀ r gb, r < w.heap.size -> gb < w.heap.size -> WantsAt w' r gb (.slice b n cap) (wantedOf x) := by
 refine (wanted_any x w).mono ?_
 rintro e w' ⟨rfl, rfl⟩
 unfold wantsV wantsW
 by_cases hl : wantedOf x = []
 · rw [if_pos hl, if_pos hl]
   exact ⟨_, _, _, rfl, Kin.refl _, fun r gb _ _ => ⟨none, 0, by rw [hl]; rfl, by rw [hl]; exact Nat.le_refl _, fun h => absurd hl h⟩⟩
 · rw [if_neg hl, if_neg hl]
   refine ⟨_, _, _, rfl, (Kin.refl w).alloc _, fun r gb h1 h2 => ⟨_, _, rfl, Nat.le_refl _, fun _ => ⟨w.heap.size, 0, rfl, by omega, by omega, fun i y hy => ?_⟩⟩⟩
   rw [Nat.zero_add]
   have hb := heap_alloc_new w (.cells ((wantedOf x).map (Value.int .i64)).toArray 3)
   unfold World.cell?
   simp only [hb]
   simp [hy]
theorem four_one (a b c : Int) {v : Value} (hv : v.oneCell' = true) : ∀ u ∈ [Value.int .i64 a, .int .i64 b, v, .int .i64 c], u.oneCell' = true := by
 intro u hu
 simp only [List.mem_cons, List.not_mem_nil, or_false] at hu
 rcases hu with rfl | rfl | rfl | rfl <;> first | rfl | exact hv
theorem four_new (w : World) (a b c d : Value) (T : TypeId) : ∀ (j : Nat) (u : Value), [a, b, c, d][j]? = some u -> (w.alloc (.cells #[a, b, c, d] T)).cell? ((⟨w.heap.size, 0, none⟩ : Addr).add j) = some u := by
 intro j u hj
 match j, hj with
 | 0, hj => simp at hj; subst hj; simp [go_sem, Addr.add]
 | 1, hj => simp at hj; subst hj; simp [go_sem, Addr.add]
 | 2, hj => simp at hj; subst hj; simp [go_sem, Addr.add]
 | 3, hj => simp at hj; subst hj; simp [go_sem, Addr.add]
 | j + 4, hj => simp at hj
theorem spare_cells {w : World} {B r gb m : Nat} {o : List Hold} {heads : Bool} (hm : m < 26) (h : ShM w B r gb o heads) (w' : World) (k : Kin w w') : ∀ j, j < 4 -> (w'.cell? ⟨gb, 0 + m * 4 + j, none⟩).isSome = true /\ w'.frozen? ⟨gb, 0 + m * 4 + j, none⟩ = false := by
 intro j hj
 obtain ⟨F, h1, _⟩ := h.row
 have h2 := h1.of_block (k.block gb h1.lt)
 exact ⟨by rw [h2.cell (by omega)]; rfl, h2.frozen _⟩
/-! ### the region that puts the new holder behind: by hand -/
theorem hstep {P : Program} {md : Region.Mode} {ops : Array Oper} {Q : Exit -> Act -> World -> Prop} {S : World -> Prop} {fuel : Nat} {listed : Array Bool} {a : Act} {w : World} {i : Nat} {o : Oper} (hr : Region.ready md ops listed = [i]) (ho : ops[i]? = some o) (hgd : o.guard = none)
   (h : o.wp P a w (fun a' w' => S w' /\ wpAnyH P md ops Q S fuel (listed.setIfInBounds i true) a' w') Q) : wpAnyH P md ops Q S (fuel + 1) listed a w := by
 refine wpAnyH_ready hr (by simp) fun j hj => ?_
 obtain rfl : j = i := by simpa using hj
 unfold wpOp
 rw [ho]
 have hw : Region.wanted o (yielded ops a.tmps) = true := by simp [Region.wanted, hgd]
 simp only [hw, if_true]
 exact .inl h
theorem hstep2 {P : Program} {md : Region.Mode} {ops : Array Oper} {Q : Exit -> Act -> World -> Prop} {S : World -> Prop} {fuel : Nat} {listed : Array Bool} {a : Act} {w : World} {i j : Nat} {o p : Oper} (hr : Region.ready md ops listed = [i, j]) (ho : ops[i]? = some o) (hgd : o.guard = none) (hp : ops[j]? = some p) (hgp : p.guard = none)
   (h : o.wp P a w (fun a' w' => S w' /\ wpAnyH P md ops Q S fuel (listed.setIfInBounds i true) a' w') Q) (k : p.wp P a w (fun a' w' => S w' /\ wpAnyH P md ops Q S fuel (listed.setIfInBounds j true) a' w') Q) : wpAnyH P md ops Q S (fuel + 1) listed a w := by
 refine wpAnyH_ready hr (by simp) fun x hx => ?_
 have hx : x = i \/ x = j := by simpa using hx
 unfold wpOp
 rcases hx with rfl | rfl
 · rw [ho]
   have hw : Region.wanted o (yielded ops a.tmps) = true := by simp [Region.wanted, hgd]
   simp only [hw, if_true]
   exact .inl h
 · rw [hp]
   have hw : Region.wanted p (yielded ops a.tmps) = true := by simp [Region.wanted, hgp]
   simp only [hw, if_true]
   exact .inl k
structure Ev (D : List Deferred) (n : Nat) (a : Act) (l : List (Nat × Value)) : Prop where
 size : a.tmps.size = n
 defers : a.defers = D
 at_ : ∀ p ∈ l, a.eval (.tmp p.1) = p.2
theorem Ev.put {D : List Deferred} {n : Nat} {a : Act} {l : List (Nat × Value)} (h : Ev D n a l) (k : Nat) (v : Value) (hk : k < n) (hl : (l.map (·.1)).contains k = false) : Ev D n (a.put (some k) v) ((k, v) :: l) := by
 refine ⟨by show (a.tmps.setIfInBounds k v).size = n; simp [h.size], h.defers, fun p hp => ?_⟩
 rcases List.mem_cons.1 hp with rfl | hp
 · show (a.tmps.setIfInBounds k v).getD k undef = v
   simp [Array.getD_eq_getD_getElem?, Array.getElem?_setIfInBounds, h.size, hk]
 · have hne : k ≠ p.1 := by
     intro e
     have hc : (l.map (·.1)).contains p.1 = true := by
       rw [List.contains_iff_mem]
       exact List.mem_map_of_mem hp
     rw [e, hc] at hl
     cases hl
   show (a.tmps.setIfInBounds k v).getD p.1 undef = p.2
   rw [<- h.at_ p hp]
   show _ = a.tmps.getD p.1 undef
   simp only [Array.getD_eq_getD_getElem?]
   rw [Array.getElem?_setIfInBounds_ne hne]
theorem Ev.skip {D : List Deferred} {n : Nat} {a : Act} {l : List (Nat × Value)} (h : Ev D n a l) (v : Value) : Ev D n (a.put none v) l := h
theorem Ev.get {D : List Deferred} {n : Nat} {a : Act} {l : List (Nat × Value)} (h : Ev D n a l) (k : Nat) (v : Value) (hm : (k, v) ∈ l) : a.eval (.tmp k) = v := h.at_ (k, v) hm
theorem ShM.push {W : World} {B r gb m : Nat} {o2 : List Hold} {h' : Bool} (h : ShM W B r gb o2 h') (hl : o2.length = m) (hm : m < 26) {wv : Value} {l : List Int} (kind depth blocks : Int) (hw : WantsAt W r gb wv l) :
   ShM ((((((W.setCell ⟨gb, m * 4, none⟩ (.int .i64 kind)).setCell ⟨gb, m * 4 + 1, none⟩ (.int .i64 depth)).setCell ⟨gb, m * 4 + 2, none⟩ wv).setCell ⟨gb, m * 4 + 3, none⟩ (.int .i64 blocks))).setCell ⟨r, 0, none⟩ (.slice (some ⟨gb, 0, none⟩) (m + 1 : Nat) 26)) B r gb (o2 ++ [⟨kind, depth, l, blocks⟩]) h' := by
 obtain ⟨F, h1, h2⟩ := h.row
 have hk : ∀ k, k ≠ r -> k ≠ gb -> ((((((W.setCell ⟨gb, m * 4, none⟩ (.int .i64 kind)).setCell ⟨gb, m * 4 + 1, none⟩ (.int .i64 depth)).setCell ⟨gb, m * 4 + 2, none⟩ wv).setCell ⟨gb, m * 4 + 3, none⟩ (.int .i64 blocks))).setCell ⟨r, 0, none⟩ (.slice (some ⟨gb, 0, none⟩) (m + 1 : Nat) 26)).heap[k]? = W.heap[k]? := fun k e1 e2 => by
   rw [Go.Deep.blk_setCell_other _ _ _ _ e1, Go.Deep.blk_setCell_other _ _ _ _ e2, Go.Deep.blk_setCell_other _ _ _ _ e2, Go.Deep.blk_setCell_other _ _ _ _ e2, Go.Deep.blk_setCell_other _ _ _ _ e2]
 have hs := ((((h.s.setOther (a := ⟨gb, m * 4, none⟩) h.ne (.int .i64 kind)).setOther (a := ⟨gb, m * 4 + 1, none⟩) h.ne (.int .i64 depth)).setOther (a := ⟨gb, m * 4 + 2, none⟩) h.ne wv).setOther (a := ⟨gb, m * 4 + 3, none⟩) h.ne (.int .i64 blocks)).set 0 (.slice (some ⟨gb, 0, none⟩) (m + 1 : Nat) 26)
 have hr := ((((h1.set (m * 4) (.int .i64 kind)).set (m * 4 + 1) (.int .i64 depth)).set (m * 4 + 2) wv).set (m * 4 + 3) (.int .i64 blocks)).setOther (a := ⟨r, 0, none⟩) (fun e => h.ne e.symm) (.slice (some ⟨gb, 0, none⟩) (m + 1 : Nat) 26)
 refine ⟨hs.congr fun i hi => ?_, ⟨_, hr, fun j x hx => ?_⟩, by simp; omega, h.ne, h.hr, h.hg⟩
 · match i, hi with
   | 0, _ => simp [shF, hl]
   | 1, _ => rfl
 · by_cases hj : j < o2.length
   · rw [List.getElem?_append_left hj] at hx
     obtain ⟨a, b, c, d⟩ := h2 j x hx
     simp only [show ¬ j * 4 = m * 4 from by omega, show ¬ j * 4 = m * 4 + 1 from by omega, show ¬ j * 4 = m * 4 + 2 from by omega, show ¬ j * 4 = m * 4 + 3 from by omega,
       show ¬ j * 4 + 1 = m * 4 from by omega, show ¬ j * 4 + 1 = m * 4 + 1 from by omega, show ¬ j * 4 + 1 = m * 4 + 2 from by omega, show ¬ j * 4 + 1 = m * 4 + 3 from by omega,
       show ¬ j * 4 + 2 = m * 4 from by omega, show ¬ j * 4 + 2 = m * 4 + 1 from by omega, show ¬ j * 4 + 2 = m * 4 + 2 from by omega, show ¬ j * 4 + 2 = m * 4 + 3 from by omega,
       show ¬ j * 4 + 3 = m * 4 from by omega, show ¬ j * 4 + 3 = m * 4 + 1 from by omega, show ¬ j * 4 + 3 = m * 4 + 2 from by omega, show ¬ j * 4 + 3 = m * 4 + 3 from by omega, if_false]
     exact ⟨a, b, c, d.kept fun k _ e1 e2 => hk k e1 e2⟩
   · rw [List.getElem?_append_right (by omega)] at hx
     have hj2 : j = m := by
       cases hjm : j - o2.length with
       | zero => omega
       | succ q => rw [hjm] at hx; simp at hx
     subst hj2
     rw [show j - o2.length = 0 from by omega] at hx
     simp at hx
     subst hx
     simp only [show ¬ j * 4 = j * 4 + 1 from by omega, show ¬ j * 4 = j * 4 + 2 from by omega, show ¬ j * 4 = j * 4 + 3 from by omega, show ¬ j * 4 + 1 = j * 4 + 2 from by omega, show ¬ j * 4 + 1 = j * 4 + 3 from by omega, show ¬ j * 4 + 2 = j * 4 + 3 from by omega, if_false, if_true]
     exact ⟨trivial, trivial, trivial, hw.kept fun k _ e1 e2 => hk k e1 e2⟩
noncomputable def stPop : Code := seqR stTail
noncomputable def stApp : Code := seqR stPop
theorem stTail_is : stTail = .seq (seqL stTail) stPop := rfl
theorem stPop_is : stPop = .seq (seqL stPop) stApp := rfl
theorem stApp_is : stApp = .seq (seqL stApp) (seqR stApp) := rfl
noncomputable def ops28 : Array Oper := regOps (seqL stApp)
theorem ops28_is : ∃ id, seqL stApp = .region id ops28 true := ⟨_, rfl⟩
theorem set_cells4 (W : World) (g n : Nat) (a b c d : Value) : W.setCells g (0 + n * 4) [a, b, c, d] = (((W.setCell ⟨g, n * 4, none⟩ a).setCell ⟨g, n * 4 + 1, none⟩ b).setCell ⟨g, n * 4 + 2, none⟩ c).setCell ⟨g, n * 4 + 3, none⟩ d := by
 rw [Nat.zero_add]
 rfl
section
variable {B r gb N m : Nat} {o2 : List Hold} {h' : Bool} {depth kind : Int} {Q : Exit -> Act -> World -> Prop} {D : List Deferred} {w : World}
def AppK (w : World) (B r gb : Nat) (o2 : List Hold) (h' : Bool) (kind depth : Int) (D : List Deferred) (Q : Exit -> Act -> World -> Prop) : Prop :=
 ∀ (a' : Act) (w' : World), a'.tmps.size = 223 -> a'.defers = D -> ShM w' B r gb (o2 ++ [⟨kind, depth, wantedOf kind, 0⟩]) h' -> Ap r gb w w' -> Q .normal a' w'
def SN (N : Nat) (depth kind : Int) (w : World) : Prop := w.cell? ⟨N, 0, none⟩ = some (.int .i64 depth) /\ w.cell? ⟨N, 1, none⟩ = some (.int .i64 kind)
theorem app_end (hQ : AppK w B r gb o2 h' kind depth D Q) (hm : m <= 24) (hl : o2.length = m) (hNr : N ≠ r) (hNg : N ≠ gb) (listed : Array Bool) (r14 : Region.ready .any ops28 listed = [14]) (r15 : Region.ready .any ops28 (listed.setIfInBounds 14 true) = [15]) (r16 : Region.ready .any ops28 ((listed.setIfInBounds 14 true).setIfInBounds 15 true) = [16])
   (r17 : Region.ready .any ops28 (((listed.setIfInBounds 14 true).setIfInBounds 15 true).setIfInBounds 16 true) = [17]) (r18 : Region.ready .any ops28 ((((listed.setIfInBounds 14 true).setIfInBounds 15 true).setIfInBounds 16 true).setIfInBounds 17 true) = [])
   (a : Act) (l : List (Nat × Value)) (hE : Ev D 223 a l) (W3 : World) (k3 : Kin w W3) (hM : ShM w B r gb o2 h') (b : Option Addr) (n c : Nat) (hw : WantsAt W3 r gb (.slice b n c) (wantedOf kind)) (hS : SN N depth kind W3)
   (m206 : (206, Value.pointer (some ⟨r, 0, none⟩)) ∈ l) (m210 : (210, Value.slice (some ⟨gb, 0, none⟩) m 26) ∈ l) (m219 : (219, Value.slice (some ⟨W3.heap.size, 0, none⟩) 1 1) ∈ l) (hl2 : ∀ k, k = 220 \/ k = 221 \/ k = 222 -> (l.map (·.1)).contains k = false) :
   wpAnyH Tryd.prog .any ops28 Q (SN N depth kind) 4 listed a (W3.alloc (.cells #[.int .i64 kind, .int .i64 depth, .slice b n c, .int .i64 0] 66)) := by
 obtain ⟨ti, hi, hz0, hz1, hz2⟩ := info_parts info157
 have k4 := k3.alloc (.cells #[.int .i64 kind, .int .i64 depth, .slice b n c, .int .i64 0] 66)
 have hM4 := hM.kin k4
 have hsp := spare_cells (m := m) (by omega) hM _ k4
 have hone := four_one kind depth 0 (v := .slice b n c) rfl
 have hSN : SN N depth kind (W3.alloc (.cells #[.int .i64 kind, .int .i64 depth, .slice b n c, .int .i64 0] 66)) := by
   have g := World.grownBy_alloc W3 (.cells #[.int .i64 kind, .int .i64 depth, .slice b n c, .int .i64 0] 66) none
   exact ⟨g.cell hS.1 (by simp), g.cell hS.2 (by simp)⟩
 have hw4 : WantsAt (W3.alloc (.cells #[.int .i64 kind, .int .i64 depth, .slice b n c, .int .i64 0] 66)) r gb (.slice b n c) (wantedOf kind) := hw.kept fun k hk _ _ => (World.grownBy_alloc W3 _ none).block k hk (by simp)
 have hnew := four_new W3 (.int .i64 kind) (.int .i64 depth) (.slice b n c) (.int .i64 0) 66
 have a4 : Ap r gb w (W3.alloc (.cells #[.int .i64 kind, .int .i64 depth, .slice b n c, .int .i64 0] 66)) := Ap.of_kin k4
 generalize hW4 : W3.alloc (.cells #[.int .i64 kind, .int .i64 depth, .slice b n c, .int .i64 0] 66) = W4 at hM4 hsp hSN hnew hw4 a4 ⊢
 have e206 := hE.get _ _ m206
 have e210 := hE.get _ _ m210
 have e219 := hE.get _ _ m219
 refine hstep (i := 14) (o := _) r14 rfl rfl ?_
 have hw14 : Region.wanted (ops28[14]?.getD default) (yielded ops28 a.tmps) = true := rfl
 suffices hK : SN N depth kind (W4.setCells gb (0 + m * 4) [.int .i64 kind, .int .i64 depth, .slice b n c, .int .i64 0]) /\ wpAnyH Tryd.prog .any ops28 Q (SN N depth kind) 3 (listed.setIfInBounds 14 true) (a.put (ops28[14]?.getD default).dst (.slice (some ⟨gb, 0, none⟩) (m + 1) 26)) (W4.setCells gb (0 + m * 4) [.int .i64 kind, .int .i64 depth, .slice b n c, .int .i64 0]) by
   have := step_append_room (P := Tryd.prog) (ops := ops28) (w := W4) (a := a) (o := (ops28[14]?.getD default)) (Q := Q) (E := True) (K := fun a' w' => SN N depth kind w' /\ wpAnyH Tryd.prog .any ops28 Q (SN N depth kind) 3 (listed.setIfInBounds 14 true) a' w') rfl (.tmp 210) (.tmp 219) 40 rfl 66 ti 4 Tryd.underlying40 hi hz1 gb 0 m 26 e210
     ⟨W3.heap.size, 0, none⟩ 1 1 [.int .i64 kind, .int .i64 depth, .slice b n c, .int .i64 0] e219 rfl hnew hone (by omega) hsp hK
   rw [if_pos hw14] at this
   exact this
 have hd14 : (ops28[14]?.getD default).dst = some 220 := by kernel_rfl
 rw [hd14, set_cells4]
 have hS5 : SN N depth kind ((((W4.setCell ⟨gb, m * 4, none⟩ (.int .i64 kind)).setCell ⟨gb, m * 4 + 1, none⟩ (.int .i64 depth)).setCell ⟨gb, m * 4 + 2, none⟩ (.slice b n c)).setCell ⟨gb, m * 4 + 3, none⟩ (.int .i64 0)) := by
   unfold SN at hSN ⊢
   simp [go_sem, hSN, hNg]
 have hfr : (((((W4.setCell ⟨gb, m * 4, none⟩ (.int .i64 kind)).setCell ⟨gb, m * 4 + 1, none⟩ (.int .i64 depth)).setCell ⟨gb, m * 4 + 2, none⟩ (.slice b n c)).setCell ⟨gb, m * 4 + 3, none⟩ (.int .i64 0))).frozen? ⟨r, 0, none⟩ = false := by
   have := hM4.fs 0
   simp [go_sem, this]
 have hcr : (((((W4.setCell ⟨gb, m * 4, none⟩ (.int .i64 kind)).setCell ⟨gb, m * 4 + 1, none⟩ (.int .i64 depth)).setCell ⟨gb, m * 4 + 2, none⟩ (.slice b n c)).setCell ⟨gb, m * 4 + 3, none⟩ (.int .i64 0))).cell? ⟨r, 0, none⟩ = some (.slice (some ⟨gb, 0, none⟩) m 26) := by
   have := hM4.c0
   have := hM4.ne
   rw [hl] at *
   simp [go_sem, *]
 have hp := hM4.push hl (by omega) kind depth 0 hw4
 have ap := ((((a4.set (a := ⟨gb, m * 4, none⟩) (.inr rfl) (.int .i64 kind)).set (a := ⟨gb, m * 4 + 1, none⟩) (.inr rfl) (.int .i64 depth)).set (a := ⟨gb, m * 4 + 2, none⟩) (.inr rfl) (.slice b n c)).set (a := ⟨gb, m * 4 + 3, none⟩) (.inr rfl) (.int .i64 0)).set (a := ⟨r, 0, none⟩) (.inl rfl) (.slice (some ⟨gb, 0, none⟩) (m + 1 : Nat) 26)
 generalize (((W4.setCell ⟨gb, m * 4, none⟩ (.int .i64 kind)).setCell ⟨gb, m * 4 + 1, none⟩ (.int .i64 depth)).setCell ⟨gb, m * 4 + 2, none⟩ (.slice b n c)).setCell ⟨gb, m * 4 + 3, none⟩ (.int .i64 0) = W5 at hS5 hfr hcr hp ap ⊢
 refine ⟨hS5, ?_⟩
 have hE1 := hE.put 220 (.slice (some ⟨gb, 0, none⟩) (m + 1) 26) (by omega) (hl2 _ (.inl rfl))
 generalize a.put (some 220) (.slice (some ⟨gb, 0, none⟩) (m + 1) 26) = a1 at hE1 ⊢
 refine hstep (i := 15) (o := _) r15 rfl rfl ?_
 have e1 := hE1.get _ _ (List.mem_cons_of_mem _ m206)
 have run15 : (execOp a1.eval (ops28[15]?.getD default)).run Tryd.prog W5 = .ok (.value (.pointer (some ⟨r, 0, none⟩))) W5 := by
   generalize a1.eval = ρ at e1 ⊢
   simp only [ops28, stApp, stPop, stTail, st0, seqL, seqR, regOps, Tryd.f12, Option.getD_some]
   simp [execOp, e1]
 show Oper.wp Tryd.prog (ops28[15]?.getD default) a1 W5 _ Q
 unfold Oper.wp
 rw [run15]
 refine ⟨hS5, ?_⟩
 have hE2 := hE1.put 221 (.pointer (some ⟨r, 0, none⟩)) (by omega) (by rw [List.map_cons, List.contains_cons, hl2 221 (.inr (.inl rfl))]; rfl)
 show wpAnyH Tryd.prog .any ops28 Q (SN N depth kind) 2 _ (a1.put (some 221) (.pointer (some ⟨r, 0, none⟩))) W5
 generalize a1.put (some 221) (.pointer (some ⟨r, 0, none⟩)) = a2 at hE2 ⊢
 refine hstep (i := 16) (o := _) r16 rfl rfl ?_
 have e2 := hE2.get 221 _ (List.mem_cons_self ..)
 have run16 : (execOp a2.eval (ops28[16]?.getD default)).run Tryd.prog W5 = .ok (.value (.pointer (some ⟨r, 0, none⟩))) W5 := by
   generalize a2.eval = ρ at e2 ⊢
   simp only [ops28, stApp, stPop, stTail, st0, seqL, seqR, regOps, Tryd.f12, Option.getD_some]
   simp [execOp, e2, go_sem]
 show Oper.wp Tryd.prog (ops28[16]?.getD default) a2 W5 _ Q
 unfold Oper.wp
 rw [run16]
 refine ⟨hS5, ?_⟩
 have hE3 := hE2.put 222 (.pointer (some ⟨r, 0, none⟩)) (by omega) (by rw [List.map_cons, List.contains_cons, List.map_cons, List.contains_cons, hl2 222 (.inr (.inr rfl))]; rfl)
 show wpAnyH Tryd.prog .any ops28 Q (SN N depth kind) 1 _ (a2.put (some 222) (.pointer (some ⟨r, 0, none⟩))) W5
 generalize a2.put (some 222) (.pointer (some ⟨r, 0, none⟩)) = a3 at hE3 ⊢
 refine hstep (i := 17) (o := _) r17 rfl rfl ?_
 have e3 := hE3.get 222 _ (List.mem_cons_self ..)
 have e4 := hE3.get 220 (.slice (some ⟨gb, 0, none⟩) (m + 1) 26) (by simp)
 have run17 : (execOp a3.eval (ops28[17]?.getD default)).run Tryd.prog W5 = .ok .skip (W5.setCell ⟨r, 0, none⟩ (.slice (some ⟨gb, 0, none⟩) (m + 1) 26)) := by
   generalize a3.eval = ρ at e3 e4 ⊢
   simp only [ops28, stApp, stPop, stTail, st0, seqL, seqR, regOps, Tryd.f12, Option.getD_some]
   simp [execOp, e3, e4, go_sem, hcr, hfr]
 show Oper.wp Tryd.prog (ops28[17]?.getD default) a3 W5 _ Q
 unfold Oper.wp
 rw [run17]
 refine ⟨?_, r18, hQ _ _ hE3.size hE3.defers hp ap⟩
 unfold SN at hS5 ⊢
 simp [go_sem, hS5, hNr]
theorem app_region (hQ : AppK w B r gb o2 h' kind depth D Q) (hPQ : ∀ (d : Option Tmp) (v : Value) (c : List PanicEntry) (a : Act) (w : World), Q (.panic c) (a.put d v) w -> Q (.panic c) a w) (hm : m <= 24) (hl : o2.length = m) (hNr : N ≠ r) (hNg : N ≠ gb) (hM : ShM w B r gb o2 h') (hS : SN N depth kind w)
   (a : Act) (hE : Ev D 223 a [(0, .pointer (some ⟨r, 0, none⟩)), (3, .pointer (some ⟨N, 0, none⟩))]) : (seqL stApp).wp Tryd.prog Q a w := by
 obtain ⟨id, hid⟩ := ops28_is
 rw [hid]
 have hsz : ops28.size = 18 := by kernel_rfl
 refine wp_region_held_drew (S := SN N depth kind) (by kernel_rfl) hS fun hS => ?_
 have HM : ShM w.drew B r gb o2 h' := hM.drewN 1
 have c0 := HM.c0
 rw [hl] at c0
 have hrl := HM.s.lt
 have hgl : gb < w.drew.heap.size := by obtain ⟨F, h1, _⟩ := HM.row; exact h1.lt
 have hNl : N < w.drew.heap.size := World.block_lt_of_cell? w.drew ⟨N, 0, none⟩ hS.1
 have kW : Kin w w.drew := (Kin.refl w).drewN 1
 generalize w.drew = W at HM c0 hrl hgl hNl hS kW ⊢
 rw [hsz]
 have g0_0 := hE.get 0 (.pointer (some ⟨r, 0, none⟩)) (by simp)
 have y0 : ∀ w', SN N depth kind w' -> (execOp a.eval (ops28[0]?.getD default)).run Tryd.prog w' = .ok (.value (.pointer (some ⟨r, 0, none⟩))) w' := fun w' hw' => by
   generalize a.eval = ρ at g0_0 ⊢
   simp only [ops28, stApp, stPop, stTail, st0, seqL, seqR, regOps, Tryd.f12, Option.getD_some]
   unfold SN at hw'
   simp [execOp, g0_0, go_sem, hw']
 refine wpAnyH_take (i := 0) (oi := _) (v := .pointer (some ⟨r, 0, none⟩)) rfl (by kernel_rfl) (by kernel_rfl) (by kernel_rfl) (fun c a w' => hPQ _ _ c a w') (.inl ⟨rfl, y0⟩) hS ?_
 have hE1' := hE.put 206 (.pointer (some ⟨r, 0, none⟩)) (by decide) rfl
 change wpAnyH Tryd.prog .any ops28 Q (SN N depth kind) 17 _ (a.put (some 206) (.pointer (some ⟨r, 0, none⟩))) W
 generalize a.put (some 206) (.pointer (some ⟨r, 0, none⟩)) = a1 at hE1' ⊢
 clear y0 g0_0 
 have g1_0 := hE1'.get 0 (.pointer (some ⟨r, 0, none⟩)) (by simp)
 have y1 : ∀ w', SN N depth kind w' -> (execOp a1.eval (ops28[1]?.getD default)).run Tryd.prog w' = .ok (.value (.pointer (some ⟨r, 0, none⟩))) w' := fun w' hw' => by
   generalize a1.eval = ρ at g1_0 ⊢
   simp only [ops28, stApp, stPop, stTail, st0, seqL, seqR, regOps, Tryd.f12, Option.getD_some]
   unfold SN at hw'
   simp [execOp, g1_0, go_sem, hw']
 refine wpAnyH_take (i := 1) (oi := _) (v := .pointer (some ⟨r, 0, none⟩)) rfl (by kernel_rfl) (by kernel_rfl) (by kernel_rfl) (fun c a w' => hPQ _ _ c a w') (.inl ⟨rfl, y1⟩) hS ?_
 have hE2' := hE1'.put 207 (.pointer (some ⟨r, 0, none⟩)) (by decide) rfl
 change wpAnyH Tryd.prog .any ops28 Q (SN N depth kind) 16 _ (a1.put (some 207) (.pointer (some ⟨r, 0, none⟩))) W
 generalize a1.put (some 207) (.pointer (some ⟨r, 0, none⟩)) = a2 at hE2' ⊢
 clear y1 g1_0 
 have g2_207 := hE2'.get 207 (.pointer (some ⟨r, 0, none⟩)) (by simp)
 have y2 : ∀ w', SN N depth kind w' -> (execOp a2.eval (ops28[2]?.getD default)).run Tryd.prog w' = .ok (.value (.pointer (some ⟨r, 0, none⟩))) w' := fun w' hw' => by
   generalize a2.eval = ρ at g2_207 ⊢
   simp only [ops28, stApp, stPop, stTail, st0, seqL, seqR, regOps, Tryd.f12, Option.getD_some]
   unfold SN at hw'
   simp [execOp, g2_207, go_sem, hw']
 refine wpAnyH_take (i := 2) (oi := _) (v := .pointer (some ⟨r, 0, none⟩)) rfl (by kernel_rfl) (by kernel_rfl) (by kernel_rfl) (fun c a w' => hPQ _ _ c a w') (.inl ⟨rfl, y2⟩) hS ?_
 have hE3' := hE2'.put 208 (.pointer (some ⟨r, 0, none⟩)) (by decide) rfl
 change wpAnyH Tryd.prog .any ops28 Q (SN N depth kind) 15 _ (a2.put (some 208) (.pointer (some ⟨r, 0, none⟩))) W
 generalize a2.put (some 208) (.pointer (some ⟨r, 0, none⟩)) = a3 at hE3' ⊢
 clear y2 g2_207 
 have g3_208 := hE3'.get 208 (.pointer (some ⟨r, 0, none⟩)) (by simp)
 have y3 : ∀ w', SN N depth kind w' -> (execOp a3.eval (ops28[3]?.getD default)).run Tryd.prog w' = .ok (.value (.pointer (some ⟨r, 0, none⟩))) w' := fun w' hw' => by
   generalize a3.eval = ρ at g3_208 ⊢
   simp only [ops28, stApp, stPop, stTail, st0, seqL, seqR, regOps, Tryd.f12, Option.getD_some]
   unfold SN at hw'
   simp [execOp, g3_208, go_sem, hw']
 refine wpAnyH_take (i := 3) (oi := _) (v := .pointer (some ⟨r, 0, none⟩)) rfl (by kernel_rfl) (by kernel_rfl) (by kernel_rfl) (fun c a w' => hPQ _ _ c a w') (.inl ⟨rfl, y3⟩) hS ?_
 have hE4' := hE3'.put 209 (.pointer (some ⟨r, 0, none⟩)) (by decide) rfl
 change wpAnyH Tryd.prog .any ops28 Q (SN N depth kind) 14 _ (a3.put (some 209) (.pointer (some ⟨r, 0, none⟩))) W
 generalize a3.put (some 209) (.pointer (some ⟨r, 0, none⟩)) = a4 at hE4' ⊢
 clear y3 g3_208 
 have g5_3 := hE4'.get 3 (.pointer (some ⟨N, 0, none⟩)) (by simp)
 have y5 : ∀ w', SN N depth kind w' -> (execOp a4.eval (ops28[5]?.getD default)).run Tryd.prog w' = .ok (.value (.pointer (some ⟨N, 1, none⟩))) w' := fun w' hw' => by
   generalize a4.eval = ρ at g5_3 ⊢
   simp only [ops28, stApp, stPop, stTail, st0, seqL, seqR, regOps, Tryd.f12, Option.getD_some]
   unfold SN at hw'
   simp [execOp, g5_3, go_sem, hw']
 refine wpAnyH_take (i := 5) (oi := _) (v := .pointer (some ⟨N, 1, none⟩)) rfl (by kernel_rfl) (by kernel_rfl) (by kernel_rfl) (fun c a w' => hPQ _ _ c a w') (.inl ⟨rfl, y5⟩) hS ?_
 have hE5' := hE4'.put 211 (.pointer (some ⟨N, 1, none⟩)) (by decide) rfl
 change wpAnyH Tryd.prog .any ops28 Q (SN N depth kind) 13 _ (a4.put (some 211) (.pointer (some ⟨N, 1, none⟩))) W
 generalize a4.put (some 211) (.pointer (some ⟨N, 1, none⟩)) = a5 at hE5' ⊢
 clear y5 g5_3 
 have g6_211 := hE5'.get 211 (.pointer (some ⟨N, 1, none⟩)) (by simp)
 have y6 : ∀ w', SN N depth kind w' -> (execOp a5.eval (ops28[6]?.getD default)).run Tryd.prog w' = .ok (.value (.int .i64 kind)) w' := fun w' hw' => by
   generalize a5.eval = ρ at g6_211 ⊢
   simp only [ops28, stApp, stPop, stTail, st0, seqL, seqR, regOps, Tryd.f12, Option.getD_some]
   unfold SN at hw'
   simp [execOp, g6_211, go_sem, hw']
 refine wpAnyH_take (i := 6) (oi := _) (v := .int .i64 kind) rfl (by kernel_rfl) (by kernel_rfl) (by kernel_rfl) (fun c a w' => hPQ _ _ c a w') (.inl ⟨rfl, y6⟩) hS ?_
 have hE6' := hE5'.put 212 (.int .i64 kind) (by decide) rfl
 change wpAnyH Tryd.prog .any ops28 Q (SN N depth kind) 12 _ (a5.put (some 212) (.int .i64 kind)) W
 generalize a5.put (some 212) (.int .i64 kind) = a6 at hE6' ⊢
 clear y6 g6_211 
 have g7_3 := hE6'.get 3 (.pointer (some ⟨N, 0, none⟩)) (by simp)
 have y7 : ∀ w', SN N depth kind w' -> (execOp a6.eval (ops28[7]?.getD default)).run Tryd.prog w' = .ok (.value (.pointer (some ⟨N, 0, none⟩))) w' := fun w' hw' => by
   generalize a6.eval = ρ at g7_3 ⊢
   simp only [ops28, stApp, stPop, stTail, st0, seqL, seqR, regOps, Tryd.f12, Option.getD_some]
   unfold SN at hw'
   simp [execOp, g7_3, go_sem, hw']
 refine wpAnyH_take (i := 7) (oi := _) (v := .pointer (some ⟨N, 0, none⟩)) rfl (by kernel_rfl) (by kernel_rfl) (by kernel_rfl) (fun c a w' => hPQ _ _ c a w') (.inl ⟨rfl, y7⟩) hS ?_
 have hE7' := hE6'.put 213 (.pointer (some ⟨N, 0, none⟩)) (by decide) rfl
 change wpAnyH Tryd.prog .any ops28 Q (SN N depth kind) 11 _ (a6.put (some 213) (.pointer (some ⟨N, 0, none⟩))) W
 generalize a6.put (some 213) (.pointer (some ⟨N, 0, none⟩)) = a7 at hE7' ⊢
 clear y7 g7_3 
 have g8_213 := hE7'.get 213 (.pointer (some ⟨N, 0, none⟩)) (by simp)
 have y8 : ∀ w', SN N depth kind w' -> (execOp a7.eval (ops28[8]?.getD default)).run Tryd.prog w' = .ok (.value (.int .i64 depth)) w' := fun w' hw' => by
   generalize a7.eval = ρ at g8_213 ⊢
   simp only [ops28, stApp, stPop, stTail, st0, seqL, seqR, regOps, Tryd.f12, Option.getD_some]
   unfold SN at hw'
   simp [execOp, g8_213, go_sem, hw']
 refine wpAnyH_take (i := 8) (oi := _) (v := .int .i64 depth) rfl (by kernel_rfl) (by kernel_rfl) (by kernel_rfl) (fun c a w' => hPQ _ _ c a w') (.inl ⟨rfl, y8⟩) hS ?_
 have hE8' := hE7'.put 214 (.int .i64 depth) (by decide) rfl
 change wpAnyH Tryd.prog .any ops28 Q (SN N depth kind) 10 _ (a7.put (some 214) (.int .i64 depth)) W
 generalize a7.put (some 214) (.int .i64 depth) = a8 at hE8' ⊢
 clear y8 g8_213 
 have g9_3 := hE8'.get 3 (.pointer (some ⟨N, 0, none⟩)) (by simp)
 have y9 : ∀ w', SN N depth kind w' -> (execOp a8.eval (ops28[9]?.getD default)).run Tryd.prog w' = .ok (.value (.pointer (some ⟨N, 1, none⟩))) w' := fun w' hw' => by
   generalize a8.eval = ρ at g9_3 ⊢
   simp only [ops28, stApp, stPop, stTail, st0, seqL, seqR, regOps, Tryd.f12, Option.getD_some]
   unfold SN at hw'
   simp [execOp, g9_3, go_sem, hw']
 refine wpAnyH_take (i := 9) (oi := _) (v := .pointer (some ⟨N, 1, none⟩)) rfl (by kernel_rfl) (by kernel_rfl) (by kernel_rfl) (fun c a w' => hPQ _ _ c a w') (.inl ⟨rfl, y9⟩) hS ?_
 have hE9' := hE8'.put 215 (.pointer (some ⟨N, 1, none⟩)) (by decide) rfl
 change wpAnyH Tryd.prog .any ops28 Q (SN N depth kind) 9 _ (a8.put (some 215) (.pointer (some ⟨N, 1, none⟩))) W
 generalize a8.put (some 215) (.pointer (some ⟨N, 1, none⟩)) = a9 at hE9' ⊢
 clear y9 g9_3 
 have g10_215 := hE9'.get 215 (.pointer (some ⟨N, 1, none⟩)) (by simp)
 have y10 : ∀ w', SN N depth kind w' -> (execOp a9.eval (ops28[10]?.getD default)).run Tryd.prog w' = .ok (.value (.int .i64 kind)) w' := fun w' hw' => by
   generalize a9.eval = ρ at g10_215 ⊢
   simp only [ops28, stApp, stPop, stTail, st0, seqL, seqR, regOps, Tryd.f12, Option.getD_some]
   unfold SN at hw'
   simp [execOp, g10_215, go_sem, hw']
 refine wpAnyH_take (i := 10) (oi := _) (v := .int .i64 kind) rfl (by kernel_rfl) (by kernel_rfl) (by kernel_rfl) (fun c a w' => hPQ _ _ c a w') (.inl ⟨rfl, y10⟩) hS ?_
 have hE10' := hE9'.put 216 (.int .i64 kind) (by decide) rfl
 change wpAnyH Tryd.prog .any ops28 Q (SN N depth kind) 8 _ (a9.put (some 216) (.int .i64 kind)) W
 generalize a9.put (some 216) (.int .i64 kind) = a10 at hE10' ⊢
 clear y10 g10_215 
 have load4 : ∀ (a : Act) (w' : World) (K : Act -> World -> Prop), a.eval (.tmp 209) = .pointer (some ⟨r, 0, none⟩) -> w'.cell? ⟨r, 0, none⟩ = some (.slice (some ⟨gb, 0, none⟩) m 26) -> K (a.put (some 210) (.slice (some ⟨gb, 0, none⟩) m 26)) w' -> Oper.wp Tryd.prog (ops28[4]?.getD default) a w' K Q := by
   intro a w' K e hc hK
   have hrun : (execOp a.eval (ops28[4]?.getD default)).run Tryd.prog w' = .ok (.value (.slice (some ⟨gb, 0, none⟩) m 26)) w' := by
     generalize a.eval = ρ at e ⊢
     simp only [ops28, stApp, stPop, stTail, st0, seqL, seqR, regOps, Tryd.f12, Option.getD_some]
     simp [execOp, e, go_sem, hc]
   unfold Oper.wp
   rw [hrun]
   exact hK
 have call11 : ∀ (a : Act) (w' : World) (K : Act -> World -> Prop), a.eval (.tmp 216) = .int .i64 kind -> (∀ b n c w3, Kin w' w3 -> (∀ r gb, r < w'.heap.size -> gb < w'.heap.size -> WantsAt w3 r gb (.slice b n c) (wantedOf kind)) -> K (a.put (some 217) (.slice b n c)) w3) -> Oper.wp Tryd.prog (ops28[11]?.getD default) a w' K Q := by
   intro a w' K e hK
   unfold Oper.wp
   rw [run_callf Tryd.func27 (by kernel_rfl) (by kernel_rfl) (o := (ops28[11]?.getD default)) (ags := #[.tmp 216]) (ts := #[23]) (by kernel_rfl) a w']
   have hm : (#[Operand.tmp 216].map a.eval) = #[.int .i64 kind] := by simp [e]
   rw [hm]
   refine Calls.mono (wanted_at kind w') ?_
   rintro e w3 ⟨b, n, c, rfl, k3, hw⟩
   exact hK b n c w3 k3 hw
 have build12 : ∀ (a : Act) (w' : World) (K : Act -> World -> Prop) (b : Option Addr) (n c : Nat), a.eval (.tmp 212) = .int .i64 kind -> a.eval (.tmp 214) = .int .i64 depth -> a.eval (.tmp 217) = .slice b n c -> K (a.put (some 218) (.agg #[.int .i64 kind, .int .i64 depth, .slice b n c, .int .i64 0])) w' -> Oper.wp Tryd.prog (ops28[12]?.getD default) a w' K Q := by
   intro a w' K b n c e1 e2 e3 hK
   have hrun : (execOp a.eval (ops28[12]?.getD default)).run Tryd.prog w' = .ok (.value (.agg #[.int .i64 kind, .int .i64 depth, .slice b n c, .int .i64 0])) w' := by
     generalize a.eval = ρ at e1 e2 e3 ⊢
     simp only [ops28, stApp, stPop, stTail, st0, seqL, seqR, regOps, Tryd.f12, Option.getD_some]
     simp [execOp, e1, e2, e3, go_sem]
   unfold Oper.wp
   rw [hrun]
   exact hK
 have slice13 : ∀ (a : Act) (w' : World) (K : Act -> World -> Prop) (b : Option Addr) (n c : Nat), a.eval (.tmp 218) = .agg #[.int .i64 kind, .int .i64 depth, .slice b n c, .int .i64 0] -> K (a.put (some 219) (.slice (some ⟨w'.heap.size, 0, none⟩) 1 1)) (w'.alloc (.cells #[.int .i64 kind, .int .i64 depth, .slice b n c, .int .i64 0] 66)) -> Oper.wp Tryd.prog (ops28[13]?.getD default) a w' K Q := by
   intro a w' K b n c e1 hK
   have hrun : (execOp a.eval (ops28[13]?.getD default)).run Tryd.prog w' = .ok (.value (.slice (some ⟨w'.heap.size, 0, none⟩) 1 1)) (w'.alloc (.cells #[.int .i64 kind, .int .i64 depth, .slice b n c, .int .i64 0] 66)) := by
     generalize a.eval = ρ at e1 ⊢
     simp only [ops28, stApp, stPop, stTail, st0, seqL, seqR, regOps, Tryd.f12, Option.getD_some]
     simp [execOp, e1, go_sem]
   unfold Oper.wp
   rw [hrun]
   exact hK
 have hSk : ∀ w', Kin W w' -> SN N depth kind w' := fun w' k => ⟨(k.cell hNl).trans hS.1, (k.cell hNl).trans hS.2⟩
 have hck : ∀ w', Kin W w' -> w'.cell? ⟨r, 0, none⟩ = some (.slice (some ⟨gb, 0, none⟩) m 26) := fun w' k => (k.cell hrl).trans c0
 refine hstep2 (i := 4) (j := 11) (o := _) (p := _) (by kernel_rfl) rfl rfl rfl rfl ?_ ?_
 · refine load4 a10 W _ (hE10'.get 209 _ (by simp)) c0 ⟨hS, ?_⟩
   have f1 := hE10'.put 210 (.slice (some ⟨gb, 0, none⟩) m 26) (by decide) rfl
   generalize a10.put (some 210) (.slice (some ⟨gb, 0, none⟩) m 26) = b1 at f1 ⊢
   refine hstep (i := 11) (o := _) (by kernel_rfl) rfl rfl ?_
   refine call11 b1 W _ (f1.get 216 _ (by simp)) fun b n c w3 k3 hw => ⟨hSk w3 k3, ?_⟩
   have f2 := f1.put 217 (.slice b n c) (by decide) rfl
   generalize b1.put (some 217) (.slice b n c) = b2 at f2 ⊢
   refine hstep (i := 12) (o := _) (by kernel_rfl) rfl rfl ?_
   refine build12 b2 w3 _ b n c (f2.get 212 _ (by simp)) (f2.get 214 _ (by simp)) (f2.get 217 _ (by simp)) ⟨hSk w3 k3, ?_⟩
   have f3 := f2.put 218 (.agg #[.int .i64 kind, .int .i64 depth, .slice b n c, .int .i64 0]) (by decide) rfl
   generalize b2.put (some 218) (.agg #[.int .i64 kind, .int .i64 depth, .slice b n c, .int .i64 0]) = b3 at f3 ⊢
   refine hstep (i := 13) (o := _) (by kernel_rfl) rfl rfl ?_
   refine slice13 b3 w3 _ b n c (f3.get 218 _ (by simp)) ⟨hSk _ (k3.alloc _), ?_⟩
   have f4 := f3.put 219 (.slice (some ⟨w3.heap.size, 0, none⟩) 1 1) (by decide) rfl
   generalize b3.put (some 219) (.slice (some ⟨w3.heap.size, 0, none⟩) 1 1) = b4 at f4 ⊢
   exact app_end hQ hm hl hNr hNg _ (by kernel_rfl) (by kernel_rfl) (by kernel_rfl) (by kernel_rfl) (by kernel_rfl) b4 _ f4 w3 (kW.trans k3) hM b n c (hw r gb hrl hgl) (hSk w3 k3) (by simp) (by simp) (by simp) (by rintro k (rfl | rfl | rfl) <;> rfl)
 · refine call11 a10 W _ (hE10'.get 216 _ (by simp)) fun b n c w3 k3 hw => ⟨hSk w3 k3, ?_⟩
   have f1 := hE10'.put 217 (.slice b n c) (by decide) rfl
   generalize a10.put (some 217) (.slice b n c) = b1 at f1 ⊢
   refine hstep2 (i := 4) (j := 12) (o := _) (p := _) (by kernel_rfl) rfl rfl rfl rfl ?_ ?_
   · refine load4 b1 w3 _ (f1.get 209 _ (by simp)) (hck w3 k3) ⟨hSk w3 k3, ?_⟩
     have f2 := f1.put 210 (.slice (some ⟨gb, 0, none⟩) m 26) (by decide) rfl
     generalize b1.put (some 210) (.slice (some ⟨gb, 0, none⟩) m 26) = b2 at f2 ⊢
     refine hstep (i := 12) (o := _) (by kernel_rfl) rfl rfl ?_
     refine build12 b2 w3 _ b n c (f2.get 212 _ (by simp)) (f2.get 214 _ (by simp)) (f2.get 217 _ (by simp)) ⟨hSk w3 k3, ?_⟩
     have f3 := f2.put 218 (.agg #[.int .i64 kind, .int .i64 depth, .slice b n c, .int .i64 0]) (by decide) rfl
     generalize b2.put (some 218) (.agg #[.int .i64 kind, .int .i64 depth, .slice b n c, .int .i64 0]) = b3 at f3 ⊢
     refine hstep (i := 13) (o := _) (by kernel_rfl) rfl rfl ?_
     refine slice13 b3 w3 _ b n c (f3.get 218 _ (by simp)) ⟨hSk _ (k3.alloc _), ?_⟩
     have f4 := f3.put 219 (.slice (some ⟨w3.heap.size, 0, none⟩) 1 1) (by decide) rfl
     generalize b3.put (some 219) (.slice (some ⟨w3.heap.size, 0, none⟩) 1 1) = b4 at f4 ⊢
     exact app_end hQ hm hl hNr hNg _ (by kernel_rfl) (by kernel_rfl) (by kernel_rfl) (by kernel_rfl) (by kernel_rfl) b4 _ f4 w3 (kW.trans k3) hM b n c (hw r gb hrl hgl) (hSk w3 k3) (by simp) (by simp) (by simp) (by rintro k (rfl | rfl | rfl) <;> rfl)
   · refine build12 b1 w3 _ b n c (f1.get 212 _ (by simp)) (f1.get 214 _ (by simp)) (f1.get 217 _ (by simp)) ⟨hSk w3 k3, ?_⟩
     have f2 := f1.put 218 (.agg #[.int .i64 kind, .int .i64 depth, .slice b n c, .int .i64 0]) (by decide) rfl
     generalize b1.put (some 218) (.agg #[.int .i64 kind, .int .i64 depth, .slice b n c, .int .i64 0]) = b2 at f2 ⊢
     refine hstep2 (i := 4) (j := 13) (o := _) (p := _) (by kernel_rfl) rfl rfl rfl rfl ?_ ?_
     · refine load4 b2 w3 _ (f2.get 209 _ (by simp)) (hck w3 k3) ⟨hSk w3 k3, ?_⟩
       have f3 := f2.put 210 (.slice (some ⟨gb, 0, none⟩) m 26) (by decide) rfl
       generalize b2.put (some 210) (.slice (some ⟨gb, 0, none⟩) m 26) = b3 at f3 ⊢
       refine hstep (i := 13) (o := _) (by kernel_rfl) rfl rfl ?_
       refine slice13 b3 w3 _ b n c (f3.get 218 _ (by simp)) ⟨hSk _ (k3.alloc _), ?_⟩
       have f4 := f3.put 219 (.slice (some ⟨w3.heap.size, 0, none⟩) 1 1) (by decide) rfl
       generalize b3.put (some 219) (.slice (some ⟨w3.heap.size, 0, none⟩) 1 1) = b4 at f4 ⊢
       exact app_end hQ hm hl hNr hNg _ (by kernel_rfl) (by kernel_rfl) (by kernel_rfl) (by kernel_rfl) (by kernel_rfl) b4 _ f4 w3 (kW.trans k3) hM b n c (hw r gb hrl hgl) (hSk w3 k3) (by simp) (by simp) (by simp) (by rintro k (rfl | rfl | rfl) <;> rfl)
     · refine slice13 b2 w3 _ b n c (f2.get 218 _ (by simp)) ⟨hSk _ (k3.alloc _), ?_⟩
       have f3 := f2.put 219 (.slice (some ⟨w3.heap.size, 0, none⟩) 1 1) (by decide) rfl
       generalize b2.put (some 219) (.slice (some ⟨w3.heap.size, 0, none⟩) 1 1) = b3 at f3 ⊢
       refine hstep (i := 4) (o := _) (by kernel_rfl) rfl rfl ?_
       refine load4 b3 _ _ (f3.get 209 _ (by simp)) (hck _ (k3.alloc _)) ⟨hSk _ (k3.alloc _), ?_⟩
       have f4 := f3.put 210 (.slice (some ⟨gb, 0, none⟩) m 26) (by decide) rfl
       generalize b3.put (some 210) (.slice (some ⟨gb, 0, none⟩) m 26) = b4 at f4 ⊢
       exact app_end hQ hm hl hNr hNg _ (by kernel_rfl) (by kernel_rfl) (by kernel_rfl) (by kernel_rfl) (by kernel_rfl) b4 _ f4 w3 (kW.trans k3) hM b n c (hw r gb hrl hgl) (hSk w3 k3) (by simp) (by simp) (by simp) (by rintro k (rfl | rfl | rfl) <;> rfl)
end
end Go.Proofs.YtonmcakdofbjiaaDoor
