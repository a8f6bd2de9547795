/-
  The parts: base Pip1 base Pip2 base Pip3 base Pip4
-/
import Derived.Test.YtonmcakdofbjiaaDoorV9
import Derived.Conc.Beside
set_option linter.unusedVariables false
set_option linter.unusedSimpArgs false
set_option linter.unusedSectionVars false
set_option linter.unnecessarySimpa false
set_option maxRecDepth 100000
set_option maxHeartbeats 8000000
namespace Go.Bsd
open Go.Conc
def blk : Loc -> Option Nat
 | .cell a => some a.block
 | .obj r => some r
 | _ => none
def Still (op : MemOp) : Prop := op.act.touch? = none /\ op.act ≠ .mark .disable /\ op.act ≠ .mark .enable
structure Duo (n c : Nat) (Op Oc : Nat -> Prop) (t : Trace) : Prop where
 clean : ∀ said, ¬ Race said t
 cls : ∀ i a, touchAt t i = some a -> a.loc.isMemory = true -> (Knows t 0 i /\ Knows t n i) \/ ∃ b, blk a.loc = some b /\ ((Op b /\ Knows t n i) \/ (Oc b /\ Knows t 0 i) \/ (b = c /\ a.kind = .atomic /\ (Knows t 0 i \/ Knows t n i)))
 over : ∀ i g, t.g? i = some g -> g ≠ 0 -> g ≠ n -> t.counts i -> ∃ j, t.g? j = some 0 /\ HappensBefore t i j
 h0 : Deaf t 0 = 0
 hn : Deaf t n = 0
structure DuoC (n c : Nat) (Op Oc : Nat -> Prop) (pc : Nat) (t : Trace) : Prop where
 clean : ∀ said, ¬ Race said t
 cls : ∀ i a, touchAt t i = some a -> a.loc.isMemory = true -> Knows t 0 i \/ (Before t i pc /\ ∃ b, blk a.loc = some b /\ (Op b \/ (b = c /\ a.kind = .atomic)))
 close : t.act? pc = some (.close c) /\ t.heard pc
 over : ∀ i g, t.g? i = some g -> g ≠ 0 -> t.counts i -> (∃ j, t.g? j = some 0 /\ HappensBefore t i j) \/ Before t i pc
 h0 : Deaf t 0 = 0
section
variable {n c : Nat} {Op Oc Op' Oc' : Nat -> Prop} {t u : Trace} {pc : Nat}
theorem deaf_still {g : Nat} (hu : ∀ op ∈ u, op.act ≠ .mark .disable /\ op.act ≠ .mark .enable) : Deaf (t ++ u) g = Deaf t g := by
 have e : t ++ u = t ++ u.toList.toArray := by simp
 rw [e, Deaf_append]
 have : ∀ (l : List MemOp) (d : Nat), (∀ op ∈ l, op.act ≠ .mark .disable /\ op.act ≠ .mark .enable) -> l.foldl (deafStep g) d = d := by
   intro l
   induction l with
   | nil => intros; rfl
   | cons x l ih =>
     intro d hl
     obtain ⟨h1, h2⟩ := hl x (List.mem_cons_self ..)
     rw [List.foldl_cons]
     have e1 : deafStep g d x = d := by
       unfold deafStep
       split
       · rename_i e; exact absurd e h1
       · rename_i e; exact absurd e h2
       · rfl
     rw [e1]
     exact ih d fun op hop => hl op (List.mem_cons_of_mem _ hop)
 exact this _ _ fun op hop => hu op (Array.mem_toList_iff.1 hop)
theorem over_app {p : Nat -> Prop} (h : ∀ i g, t.g? i = some g -> g ≠ 0 -> p g -> t.counts i -> ∃ j, t.g? j = some 0 /\ HappensBefore t i j) (hu : ∀ op ∈ u, op.g = 0 \/ ¬ p op.g \/ op.act.touch? = none) :
   ∀ i g, (t ++ u).g? i = some g -> g ≠ 0 -> p g -> (t ++ u).counts i -> ∃ j, (t ++ u).g? j = some 0 /\ HappensBefore (t ++ u) i j := by
 intro i g hg hne hp hc
 obtain ⟨x, hx, hm⟩ := hc
 obtain ⟨op, hop, hox⟩ := touch_of hx
 rcases getElem?_append_cases hop with ⟨hi, hop'⟩ | ⟨_, hopu⟩
 · obtain ⟨j, hj, hb⟩ := h i g (by simpa [Trace.g?, getElem?_append_old hi] using hg) hne hp ((counts_old hi).1 ⟨x, hx, hm⟩)
   have hjl : j < t.size := by
     unfold Trace.g? at hj
     obtain ⟨z, hz, _⟩ := Option.map_eq_some_iff.1 hj
     exact lt_size_of_getElem? hz
   exact ⟨j, by simpa [Trace.g?, getElem?_append_old hjl] using hj, hb_app u hb⟩
 · have e : op.g = g := by simpa [Trace.g?, hop] using hg
   rcases hu op hopu with h0 | h0 | h0
   · exact absurd (e ▸ h0) hne
   · exact absurd (e ▸ hp) h0
   · rw [h0] at hox; cases hox
theorem cls_app {K : Trace -> Nat -> Touch -> Prop} (hK : ∀ i a, K t i a -> K (t ++ u) i a) (h : ∀ i a, touchAt t i = some a -> a.loc.isMemory = true -> K t i a)
   (hu : ∀ i op a, t.size <= i -> (t ++ u)[i]? = some op -> op ∈ u -> op.act.touch? = some a -> a.loc.isMemory = true -> K (t ++ u) i a) : ∀ i a, touchAt (t ++ u) i = some a -> a.loc.isMemory = true -> K (t ++ u) i a := by
 intro i a ha hm
 obtain ⟨x, hx, hxa⟩ := touch_of ha
 rcases getElem?_append_cases hx with ⟨hi, hx'⟩ | ⟨hi, hxu⟩
 · exact hK i a (h i a (by rw [touchAt_of hx']; exact hxa) hm)
 · exact hu i x a hi hx hxu hxa hm
def DuoK (n c : Nat) (Op Oc : Nat -> Prop) (t : Trace) (i : Nat) (a : Touch) : Prop := (Knows t 0 i /\ Knows t n i) \/ ∃ b, blk a.loc = some b /\ ((Op b /\ Knows t n i) \/ (Oc b /\ Knows t 0 i) \/ (b = c /\ a.kind = .atomic /\ (Knows t 0 i \/ Knows t n i)))
theorem DuoK.wide {i : Nat} {a : Touch} (hp : ∀ b, Op b -> Op' b) (hc : ∀ b, Oc b -> Oc' b) (h : DuoK n c Op Oc t i a) : DuoK n c Op' Oc' t i a := by
 rcases h with h | ⟨b, hb, ⟨h1, h2⟩ | ⟨h1, h2⟩ | h⟩
 · exact .inl h
 · exact .inr ⟨b, hb, .inl ⟨hp b h1, h2⟩⟩
 · exact .inr ⟨b, hb, .inr (.inl ⟨hc b h1, h2⟩)⟩
 · exact .inr ⟨b, hb, .inr (.inr h)⟩
theorem DuoK.app {i : Nat} {a : Touch} (hp : ∀ b, Op b -> Op' b) (hc : ∀ b, Oc b -> Oc' b) (h : DuoK n c Op Oc t i a) : DuoK n c Op' Oc' (t ++ u) i a := by
 rcases h with ⟨h1, h2⟩ | ⟨b, hb, ⟨h1, h2⟩ | ⟨h1, h2⟩ | ⟨h1, h2, h3⟩⟩
 · exact .inl ⟨h1.app u, h2.app u⟩
 · exact .inr ⟨b, hb, .inl ⟨hp b h1, h2.app u⟩⟩
 · exact .inr ⟨b, hb, .inr (.inl ⟨hc b h1, h2.app u⟩)⟩
 · exact .inr ⟨b, hb, .inr (.inr ⟨h1, h2, h3.imp (·.app u) (·.app u)⟩)⟩
def DuoCK (c : Nat) (Op : Nat -> Prop) (pc : Nat) (t : Trace) (i : Nat) (a : Touch) : Prop := Knows t 0 i \/ (Before t i pc /\ ∃ b, blk a.loc = some b /\ (Op b \/ (b = c /\ a.kind = .atomic)))
theorem DuoCK.app {i : Nat} {a : Touch} (h : DuoCK c Op pc t i a) : DuoCK c Op pc (t ++ u) i a := h.imp (·.app u) fun ⟨h1, h2⟩ => ⟨h1.app u, h2⟩
theorem noRace_still {said : Bool} (h : ¬ Race said t) (hu : ∀ op ∈ u, op.act.touch? = none) : ¬ Race said (t ++ u) := by
 rintro ⟨i, j, hij, ⟨a, b, ha, hb, hc⟩, n1, n2⟩
 obtain ⟨x, hx, hxa⟩ := touch_of ha
 obtain ⟨y, hy, hyb⟩ := touch_of hb
 rcases getElem?_append_cases hy with ⟨hj, hy'⟩ | ⟨hj, hyu⟩
 · rcases getElem?_append_cases hx with ⟨hi, hx'⟩ | ⟨hi, hxu⟩
   · exact h ⟨i, j, hij, ⟨a, b, by simp [Trace.act?, hx', hxa], by simp [Trace.act?, hy', hyb], hc⟩, fun e => n1 (hb_app u e), fun e => n2 (hb_app u e)⟩
   · rw [hu x hxu] at hxa; cases hxa
 · rw [hu y hyu] at hyb; cases hyb
theorem Duo.still (h : Duo n c Op Oc t) (hu : ∀ op ∈ u, Still op) : Duo n c Op Oc (t ++ u) :=
 ⟨fun said => noRace_still (h.clean said) fun op hop => (hu op hop).1,
  cls_app (K := DuoK n c Op Oc) (fun i a k => k.app (fun _ x => x) fun _ x => x) h.cls fun i op a _ _ hop ha _ => (by rw [(hu op hop).1] at ha; cases ha),
  fun i g h1 h2 h3 h4 => over_app (p := fun g => g ≠ n) h.over (fun op hop => .inr (.inr (hu op hop).1)) i g h1 h2 h3 h4,
  (deaf_still fun op hop => (hu op hop).2).trans h.h0, (deaf_still fun op hop => (hu op hop).2).trans h.hn⟩
theorem DuoC.still (h : DuoC n c Op Oc pc t) (hu : ∀ op ∈ u, Still op) : DuoC n c Op Oc pc (t ++ u) := by
 have hpc : pc < t.size := lt_of_act? h.close.1
 refine ⟨fun said => noRace_still (h.clean said) fun op hop => (hu op hop).1,
  cls_app (K := DuoCK c Op pc) (fun i a k => k.app) h.cls fun i op a _ _ hop ha _ => (by rw [(hu op hop).1] at ha; cases ha),
  ⟨(act?_old hpc).trans h.close.1, (heard_old hpc).2 h.close.2⟩, fun i g hg hne hc => ?_, (deaf_still fun op hop => (hu op hop).2).trans h.h0⟩
 obtain ⟨x, hx, hm⟩ := hc
 obtain ⟨op, hop, hox⟩ := touch_of hx
 rcases getElem?_append_cases hop with ⟨hi, hop'⟩ | ⟨_, hopu⟩
 · rcases h.over i g (by simpa [Trace.g?, getElem?_append_old hi] using hg) hne ((counts_old hi).1 ⟨x, hx, hm⟩) with ⟨j, hj, hb⟩ | hb
   · have hjl : j < t.size := by
       unfold Trace.g? at hj
       obtain ⟨z, hz, _⟩ := Option.map_eq_some_iff.1 hj
       exact lt_size_of_getElem? hz
     exact .inl ⟨j, by simpa [Trace.g?, getElem?_append_old hjl] using hj, hb_app u hb⟩
   · exact .inr (hb.app u)
 · rw [(hu op hopu).1] at hox; cases hox
def TouchIn (O : Nat -> Prop) (c : Nat) (op : MemOp) : Prop := ∀ a, op.act.touch? = some a -> a.loc.isMemory = true -> ∃ b, blk a.loc = some b /\ ((O b /\ b ≠ c) \/ (b = c /\ a.kind = .atomic))
theorem blk_eq {a b : Touch} {said : Bool} (h : a.conflicts said b) : blk a.loc = blk b.loc := by rw [h.1]
theorem atomic_clash {a b : Touch} {said : Bool} (h : a.conflicts said b) (ha : a.kind = .atomic) (hb : b.kind = .atomic) : False := by
 obtain ⟨_, _, _, hk⟩ := h
 rw [ha, hb] at hk
 rcases hk with h | h | ⟨_, h, _⟩ <;> cases h
theorem Duo.prod (h : Duo n c Op Oc t) (hp : ∀ b, Op b -> Op' b) (hd : ∀ b, Op' b -> Oc b -> False) (hc : ¬ Oc c) (hu : ∀ op ∈ u, op.g = n) (ht : ∀ op ∈ u, TouchIn Op' c op) (hs : ∀ op ∈ u, op.act ≠ .mark .disable /\ op.act ≠ .mark .enable) : Duo n c Op' Oc (t ++ u) := by
 refine ⟨fun said => noRace_append (h.clean said) hu fun i a ha op hop b hb hcf => ?_, cls_app (K := DuoK n c Op' Oc) (fun i a k => k.app (fun _ x => x) fun _ x => x) (fun i a h1 h2 => DuoK.wide hp (fun _ x => x) (h.cls i a h1 h2)) fun i op a hi hop hmem ha hm => ?_,
   fun i g h1 h2 h3 h4 => over_app (p := fun g => g ≠ n) h.over (fun op hop => .inr (.inl fun k => k (hu op hop))) i g h1 h2 h3 h4, (deaf_still hs).trans h.h0, (deaf_still hs).trans h.hn⟩
 · have hmb : b.loc.isMemory = true := hcf.1 ▸ hcf.2.1
   obtain ⟨x, hx, hx2⟩ := ht op hop b hb hmb
   rcases h.cls i a ha hcf.2.1 with ⟨_, k⟩ | ⟨y, hy, hk⟩
   · exact k
   · have e : y = x := by
       have := blk_eq hcf
       rw [hy, hx] at this
       exact Option.some.inj this
     subst e
     rcases hk with ⟨_, k⟩ | ⟨k1, _⟩ | ⟨k1, k2, _⟩
     · exact k
     · rcases hx2 with ⟨q, _⟩ | ⟨q, _⟩
       · exact (hd _ q k1).elim
       · exact (hc (q ▸ k1)).elim
     · rcases hx2 with ⟨_, q⟩ | ⟨_, q⟩
       · exact (q k1).elim
       · exact (atomic_clash hcf k2 q).elim
 · have hk := knows_own hop
   rw [hu op hmem] at hk
   obtain ⟨x, hx, hx2⟩ := ht op hmem a ha hm
   rcases hx2 with ⟨q, _⟩ | ⟨q, q2⟩
   · exact .inr ⟨x, hx, .inl ⟨q, hk⟩⟩
   · exact .inr ⟨x, hx, .inr (.inr ⟨q, q2, .inr hk⟩)⟩
theorem Duo.cons (h : Duo n c Op Oc t) (hp : ∀ b, Oc b -> Oc' b) (hd : ∀ b, Op b -> Oc' b -> False) (hc : ¬ Op c) (hn0 : n ≠ 0) (hu : ∀ op ∈ u, op.g = 0) (ht : ∀ op ∈ u, TouchIn Oc' c op) (hs : ∀ op ∈ u, op.act ≠ .mark .disable /\ op.act ≠ .mark .enable) : Duo n c Op Oc' (t ++ u) := by
 refine ⟨fun said => noRace_append (h.clean said) hu fun i a ha op hop b hb hcf => ?_, cls_app (K := DuoK n c Op Oc') (fun i a k => k.app (fun _ x => x) fun _ x => x) (fun i a h1 h2 => DuoK.wide (fun _ x => x) hp (h.cls i a h1 h2)) fun i op a hi hop hmem ha hm => ?_,
   fun i g h1 h2 h3 h4 => over_app (p := fun g => g ≠ n) h.over (fun op hop => .inl (hu op hop)) i g h1 h2 h3 h4, (deaf_still hs).trans h.h0, (deaf_still hs).trans h.hn⟩
 · have hmb : b.loc.isMemory = true := hcf.1 ▸ hcf.2.1
   obtain ⟨x, hx, hx2⟩ := ht op hop b hb hmb
   rcases h.cls i a ha hcf.2.1 with ⟨k, _⟩ | ⟨y, hy, hk⟩
   · exact k
   · have e : y = x := by
       have := blk_eq hcf
       rw [hy, hx] at this
       exact Option.some.inj this
     subst e
     rcases hk with ⟨k1, _⟩ | ⟨_, k⟩ | ⟨k1, k2, _⟩
     · rcases hx2 with ⟨q, _⟩ | ⟨q, _⟩
       · exact (hd _ k1 q).elim
       · exact (hc (q ▸ k1)).elim
     · exact k
     · rcases hx2 with ⟨_, q⟩ | ⟨_, q⟩
       · exact (q k1).elim
       · exact (atomic_clash hcf k2 q).elim
 · have hk := knows_own hop
   rw [hu op hmem] at hk
   obtain ⟨x, hx, hx2⟩ := ht op hmem a ha hm
   rcases hx2 with ⟨q, _⟩ | ⟨q, q2⟩
   · exact .inr ⟨x, hx, .inr (.inl ⟨q, hk⟩)⟩
   · exact .inr ⟨x, hx, .inr (.inr ⟨q, q2, .inl hk⟩)⟩
theorem DuoC.cons (h : DuoC n c Op Oc pc t) (hd : ∀ b, Op b -> Oc' b -> False) (hc : ¬ Op c) (hu : ∀ op ∈ u, op.g = 0) (ht : ∀ op ∈ u, TouchIn Oc' c op) (hs : ∀ op ∈ u, op.act ≠ .mark .disable /\ op.act ≠ .mark .enable) : DuoC n c Op Oc' pc (t ++ u) := by
 have hpc : pc < t.size := lt_of_act? h.close.1
 refine ⟨fun said => noRace_append (h.clean said) hu fun i a ha op hop b hb hcf => ?_, cls_app (K := DuoCK c Op pc) (fun i a k => k.app) h.cls fun i op a hi hop hmem ha hm => ?_,
   ⟨(act?_old hpc).trans h.close.1, (heard_old hpc).2 h.close.2⟩, fun i g hg hne hcn => ?_, (deaf_still hs).trans h.h0⟩
 · have hmb : b.loc.isMemory = true := hcf.1 ▸ hcf.2.1
   obtain ⟨x, hx, hx2⟩ := ht op hop b hb hmb
   rcases h.cls i a ha hcf.2.1 with k | ⟨_, y, hy, hk⟩
   · exact k
   · have e : y = x := by
       have := blk_eq hcf
       rw [hy, hx] at this
       exact Option.some.inj this
     subst e
     rcases hk with k1 | ⟨k1, k2⟩
     · rcases hx2 with ⟨q, _⟩ | ⟨q, _⟩
       · exact (hd _ k1 q).elim
       · exact (hc (q ▸ k1)).elim
     · rcases hx2 with ⟨_, q⟩ | ⟨_, q⟩
       · exact (q k1).elim
       · exact (atomic_clash hcf k2 q).elim
 · have hk := knows_own hop
   rw [hu op hmem] at hk
   exact .inl hk
 · obtain ⟨x, hx, hm⟩ := hcn
   obtain ⟨op, hop, hox⟩ := touch_of hx
   rcases getElem?_append_cases hop with ⟨hi, hop'⟩ | ⟨_, hopu⟩
   · rcases h.over i g (by simpa [Trace.g?, getElem?_append_old hi] using hg) hne ((counts_old hi).1 ⟨x, hx, hm⟩) with ⟨j, hj, hb⟩ | hb
     · have hjl : j < t.size := by
         unfold Trace.g? at hj
         obtain ⟨z, hz, _⟩ := Option.map_eq_some_iff.1 hj
         exact lt_size_of_getElem? hz
       exact .inl ⟨j, by simpa [Trace.g?, getElem?_append_old hjl] using hj, hb_app u hb⟩
     · exact .inr (hb.app u)
   · exact absurd ((by simpa [Trace.g?, hop] using hg : op.g = g) ▸ hu op hopu) hne
theorem Duo.closes (h : Duo n c Op Oc t) {y : MemOp} (hg : y.g = n) (hy : y.act = .close c) : DuoC n c Op Oc t.size (t ++ #[y]) := by
 have hlast : (t ++ #[y])[t.size]? = some y := by rw [Array.getElem?_append_right (Nat.le_refl _)]; simp
 have hu : ∀ op ∈ (#[y] : Array MemOp), Still op := by
   intro op hop
   have : op = y := by simpa using hop
   subst this
   exact ⟨by rw [hy]; rfl, by rw [hy]; simp, by rw [hy]; simp⟩
 have h' := h.still hu
 have hbef : ∀ i, Knows (t ++ #[y]) n i -> Before (t ++ #[y]) i t.size := by
   rintro i ⟨q, z, h1, h2, h3⟩
   have hq := lt_size_of_getElem? h1
   rcases Nat.lt_or_ge q t.size with hl | hl
   · exact h3.trans (.inr (hb_po hl h1 hlast (h2.trans hg.symm)))
   · have e : q = t.size := by simp at hq; omega
     exact e ▸ h3
 refine ⟨h'.clean, fun i a ha hm => ?_, ⟨by rw [act?_of hlast, hy], n, by simp [Trace.g?, hg], ?_⟩, fun i g hg2 hne hc => ?_, h'.h0⟩
 · rcases h'.cls i a ha hm with ⟨k, _⟩ | ⟨b, hb, ⟨k1, k2⟩ | ⟨k1, k2⟩ | ⟨k1, k2, k3⟩⟩
   · exact .inl k
   · exact .inr ⟨hbef i k2, b, hb, .inl k1⟩
   · exact .inl k2
   · rcases k3 with k3 | k3
     · exact .inl k3
     · exact .inr ⟨hbef i k3, b, hb, .inr ⟨k1, k2⟩⟩
 · rw [deaf_old (Nat.le_refl _)]
   exact h.hn
 · by_cases hgn : g = n
   · subst hgn
     obtain ⟨x, hx, _⟩ := hc
     obtain ⟨op, hop, _⟩ := touch_of hx
     have e : op.g = g := by unfold Trace.g? at hg2; rw [hop] at hg2; simpa using hg2
     have k := knows_own hop
     rw [e] at k
     exact .inr (hbef i k)
   · exact .inl (h'.over i g hg2 hne hgn hc)
theorem low_some (t : Trace) : ∃ B, ∀ op ∈ t, op.act.low B := by
 obtain ⟨l⟩ := t
 induction l with
 | nil => exact ⟨0, by simp⟩
 | cons x l ih =>
   obtain ⟨B, hB⟩ := ih
   have one : ∃ B, x.act.low B := by
     cases hx : x.act with
     | access e =>
       obtain ⟨loc, wr, sy⟩ := e
       cases loc with
       | cell a => exact ⟨a.block + 1, Nat.lt_succ_self _⟩
       | obj r => exact ⟨r + 1, Nat.lt_succ_self _⟩
       | _ => exact ⟨0, trivial⟩
     | mark m => cases m <;> first | exact ⟨0, trivial⟩ | exact ⟨_, Nat.lt_succ_self _⟩
     | go _ => exact ⟨0, trivial⟩
     | start => exact ⟨0, trivial⟩
     | _ => exact ⟨_, Nat.lt_succ_self _⟩
   obtain ⟨B', hB'⟩ := one
   refine ⟨max B B', fun op hop => ?_⟩
   rcases List.mem_cons.1 (by simpa using hop : op ∈ x :: l) with rfl | h
   · exact MemAct.low_mono (Nat.le_max_right _ _) hB'
   · exact MemAct.low_mono (Nat.le_max_left _ _) (hB op (by simpa using h))
theorem DuoC.over0 (h : DuoC n c Op Oc pc t) {y : MemOp} (hg : y.g = 0) (hy : y.act = .recvClosed c) : ∃ B, Past (fun _ => False) B (t ++ #[y]) := by
 have hlast : (t ++ #[y])[t.size]? = some y := by rw [Array.getElem?_append_right (Nat.le_refl _)]; simp
 have hu : ∀ op ∈ (#[y] : Array MemOp), Still op := by
   intro op hop
   have : op = y := by simpa using hop
   subst this
   exact ⟨by rw [hy]; rfl, by rw [hy]; simp, by rw [hy]; simp⟩
 have h' := h.still hu
 have hpc : pc < t.size := lt_of_act? h.close.1
 have hheard : (t ++ #[y]).heard t.size := ⟨0, by simp [Trace.g?, hg], by rw [deaf_old (Nat.le_refl _)]; exact h.h0⟩
 have hedge : HappensBefore (t ++ #[y]) pc t.size := .single (.inr ⟨.closed (c := c) h'.close.1 (by rw [act?_of hlast, hy]), h'.close.2, hheard⟩)
 have hk : ∀ i, Before (t ++ #[y]) i pc -> Knows (t ++ #[y]) 0 i := fun i k => ⟨t.size, y, hlast, hg, .inr (k.hb hedge)⟩
 obtain ⟨B, hB⟩ := low_some (t ++ #[y])
 refine ⟨B, h'.clean, fun i a ha hm => .inl ?_, fun i g hgi hne hc => ?_, h'.h0, hB⟩
 · rcases h'.cls i a ha hm with k | ⟨k, _⟩
   · exact k
   · exact hk i k
 · rcases h'.over i g hgi hne hc with k | k
   · exact k
   · exact ⟨t.size, by simp [Trace.g?, hg], k.hb hedge⟩
theorem duo_start {B : Nat} (h : Past (fun _ => False) B t) (hn0 : n ≠ 0) (hnd : Deaf t n = 0) {y z : MemOp} (hy : y.g = 0) (hya : y.act = .go n) (hz : z.g = n) (hza : z.act = .start) (Op Oc : Nat -> Prop) (c : Nat) : Duo n c Op Oc (t ++ #[y, z]) := by
 have e : t ++ #[y, z] = (t ++ #[y]) ++ #[z] := by apply Array.ext'; simp
 have ly : (t ++ #[y, z])[t.size]? = some y := by rw [Array.getElem?_append_right (Nat.le_refl _)]; simp
 have lz : (t ++ #[y, z])[t.size + 1]? = some z := by rw [Array.getElem?_append_right (Nat.le_succ _)]; simp
 have hu : ∀ op ∈ (#[y, z] : Array MemOp), Still op := by
   intro op hop
   have : op = y \/ op = z := by simpa using hop
   rcases this with rfl | rfl
   · exact ⟨by rw [hya]; rfl, by rw [hya]; simp, by rw [hya]; simp⟩
   · exact ⟨by rw [hza]; rfl, by rw [hza]; simp, by rw [hza]; simp⟩
 have d0 : Deaf (t ++ #[y, z]) 0 = 0 := (deaf_still fun op hop => (hu op hop).2).trans h.hears
 have dn : Deaf (t ++ #[y, z]) n = 0 := (deaf_still fun op hop => (hu op hop).2).trans hnd
 have hy0 : (t ++ #[y, z]).heard t.size := ⟨0, by unfold Trace.g?; rw [ly]; simp [hy], by rw [deaf_old (Nat.le_refl _)]; exact h.hears⟩
 have hz0 : (t ++ #[y, z]).heard (t.size + 1) := by
   refine ⟨n, by unfold Trace.g?; rw [lz]; simp [hz], ?_⟩
   rw [e, deaf_old (by simp)]
   have : Deaf (t ++ #[y]) n = 0 := (deaf_still fun op hop => (hu op (by simp at hop ⊢; exact .inl hop)).2).trans hnd
   unfold Deaf at this
   simpa using this
 have hedge : HappensBefore (t ++ #[y, z]) t.size (t.size + 1) := .single (.inr ⟨.spawn (child := n) (by rw [act?_of ly, hya]) (by rw [act?_of lz, hza]) (by unfold Trace.g?; rw [lz]; simp [hz]), hy0, hz0⟩)
 refine ⟨fun said => noRace_still (h.clean said) fun op hop => (hu op hop).1, fun i a ha hm => ?_, fun i g h1 h2 h3 h4 => over_app (p := fun _ => True) (fun i g a b _ d => h.over i g a b d) (fun op hop => .inr (.inr (hu op hop).1)) i g h1 h2 trivial h4, d0, dn⟩
 obtain ⟨x, hx, hxa⟩ := touch_of ha
 rcases getElem?_append_cases hx with ⟨hi, hx'⟩ | ⟨_, hxu⟩
 · have k : Knows t 0 i := (h.known i a (by rw [touchAt_of hx']; exact hxa) hm).elim id fun k => k.1.elim
   exact .inl ⟨k.app _, ⟨t.size + 1, z, lz, hz, .inr ((k.hb_new (Nat.le_refl _) ly hy).trans hedge)⟩⟩
 · rw [(hu x hxu).1] at hxa; cases hxa
theorem touch_ev {ρ : Rn} {w : World} {g : Nat} {fn : FuncId} {pos : String} {es : Array Event} (h : ∀ e ∈ es, EvR ρ w e) (hc : chanAt w c) :
   (∀ op ∈ MemOp.ofEvents g fn pos es, op.g = g) /\ (∀ op ∈ MemOp.ofEvents g fn pos es, TouchIn (fun b => (∃ x, ρ x b) /\ b ≠ c) c op) /\ ∀ op ∈ MemOp.ofEvents g fn pos es, op.act ≠ .mark .disable /\ op.act ≠ .mark .enable := by
 have key : ∀ op ∈ MemOp.ofEvents g fn pos es, ∃ e ∈ es, op = { g, fn, pos, act := .ofEvent e } := fun op hop => Go.Conc.mem_ofEvents hop
 refine ⟨fun op hop => by obtain ⟨e, _, rfl⟩ := key op hop; rfl, fun op hop a ha hm => ?_, fun op hop => ?_⟩
 · obtain ⟨e, he, rfl⟩ := key op hop
   obtain ⟨loc, wr, sy⟩ := e
   rcases h _ he with ⟨ad, x, h1, h2, h3, h4⟩ | ⟨m, h1, h2⟩ | ⟨r, x, b, h1, h2, h3⟩ | h1
   · simp only at h1 h2
     subst h1; subst h2
     simp only [MemAct.ofEvent, MemAct.touch?, Option.some.injEq] at ha
     subst ha
     exact ⟨ad.block, rfl, .inl ⟨⟨⟨x, h3⟩, fun k => h4 (k ▸ hc)⟩, fun k => h4 (k ▸ hc)⟩⟩
   · simp only at h1
     subst h1
     rcases h2 with rfl | ⟨f, rfl⟩ <;> simp [MemAct.ofEvent, MemAct.touch?] at ha
   · simp only [Event.mk.injEq] at h1
     obtain ⟨rfl, rfl, rfl⟩ := h1
     simp only [MemAct.ofEvent, MemAct.touch?, Option.some.injEq] at ha
     subst ha
     by_cases hrc : r = c
     · rcases h3 with rfl | h3
       · exact ⟨r, rfl, .inr ⟨hrc, rfl⟩⟩
       · exact (h3 (hrc ▸ hc)).elim
     · exact ⟨r, rfl, .inl ⟨⟨⟨x, h2⟩, hrc⟩, hrc⟩⟩
   · simp only at h1
     subst h1
     cases wr <;> cases sy <;> (simp only [MemAct.ofEvent, MemAct.touch?, Option.some.injEq] at ha; subst ha; cases hm)
 · obtain ⟨e, he, rfl⟩ := key op hop
   obtain ⟨loc, wr, sy⟩ := e
   rcases h _ he with ⟨ad, x, h1, h2, h3, h4⟩ | ⟨m, h1, h2⟩ | ⟨r, x, b, h1, h2, h3⟩ | h1
   · simp only at h1 h2
     subst h1; subst h2
     simp [MemAct.ofEvent]
   · simp only at h1
     subst h1
     rcases h2 with rfl | ⟨f, rfl⟩ <;> simp [MemAct.ofEvent]
   · simp only [Event.mk.injEq] at h1
     obtain ⟨rfl, rfl, rfl⟩ := h1
     simp [MemAct.ofEvent]
   · simp only at h1
     subst h1
     simp [MemAct.ofEvent]
end
end Go.Bsd
namespace Go.Bsd
open Go.Conc
theorem crowd_recv_full {P : Program} {gs : Array Goroutine} {w w₁ : World} {sl : Option (Nat × Nat)} {i j : Nat} {g g₂ gj : Goroutine} {es : Array Event} {shape shj : CommShape} {blocking : Bool} {c cap s r : Nat} {buf : Array Value} {closed tm : Bool} {v z zj : Value}
   (hi : gs[i]? = some g) (h : stepG P (i == 0) g w = .comm g₂ #[rcase c z] blocking shape w₁ es) (hc : w₁.heap[c]? = some (.chan cap buf closed s r tm)) (hsome : 0 < buf.size)
   (hij : j ≠ i) (hj : gs[j]? = some (parked gj #[scase c v zj] shj)) (hp : partners (gs.setIfInBounds i ph) c true = [(j, 0)]) :
   runT P (crowd gs w sl) i = (.next (crowd ((gs.setIfInBounds j (gj.finishComm P #[scase c v zj] shj 0 undef false)).setIfInBounds i (g₂.finishComm P #[rcase c z] shape 0 (buf.getD 0 undef) true)) (w₁.setChan c cap ((buf.extract 1 buf.size).push v) closed (s + 1) (r + 1) tm) sl),
     MemOp.ofEvents i g.frame.fn g.frame.place es ++ #[{ g := i, fn := g₂.frame.fn, pos := g₂.frame.place, act := .recv c r cap }, { g := i, fn := g₂.frame.fn, pos := g₂.frame.place, act := .recvDone c r },
       { g := j, fn := gj.frame.fn, pos := gj.frame.place, act := .send c s }, { g := j, fn := gj.frame.fn, pos := gj.frame.place, act := .sendDone c s }]) := by
 rw [runT_crowd_comm hi h]
 have hj' := stand_get (i := i) hij hj
 have hfp := finishPartner_at P (gs.setIfInBounds i ph) hj' (cs := #[scase c v zj]) (sh := shj) rfl 0 undef
 have hgd : (gs.setIfInBounds i ph).getD j default = parked gj #[scase c v zj] shj := by rw [Array.getD_eq_getD_getElem?, hj']; rfl
 have hov : offeredValue (gs.setIfInBounds i ph) j 0 = v := by simp [offeredValue, hj', parked, scase]
 simp [communicate, ways, rcase, hc, hp, hsome, choose, Sem.run, Question.forced, bind, Sem.bind, pure, World.setChan, crowd, hfp, hgd, hov, set_stand2, finishComm_parked, scase, parked]
 rfl
structure Lk (P : Program) (F : FuncId -> Prop) (G : Nat -> Prop) (D : Bool -> Prop) (k k' : CallKind) (tl tl' : List Deferred) (cs cs' : List Frame) (ρ : Rn) (fr : Frame) (l : List Frame) (fr' : Frame) (l' : List Frame) (v w : World) : Prop where
 st : SRl P F G D k k' tl tl' cs cs' ρ (fr :: l) (fr' :: l')
 one : One P.globals.size ρ
 rel : WRel F ρ v w
 os : v.os = w.os
 sz : P.globals.size <= v.heap.size
 sz' : P.globals.size <= w.heap.size
 glob : ∀ g, G g -> ρ g g
section
variable {P : Program} {F : FuncId -> Prop} {G : Nat -> Prop} {D : Bool -> Prop} {k k' : CallKind} {tl tl' : List Deferred} {cs cs' : List Frame} {ρ ρ₁ : Rn} {fr fr' : Frame} {l l' : List Frame} {v w v₁ w₁ : World}
theorem Lk.moved (h : Lk P F G D k k' tl tl' cs cs' ρ fr l fr' l' v w) (m : Moved P.globals.size F ρ v w ρ₁ v₁ w₁) {fr₁ fr₁' : Frame} {l₁ l₁' : List Frame} (hs : SRl P F G D k k' tl tl' cs cs' ρ₁ (fr₁ :: l₁) (fr₁' :: l₁')) : Lk P F G D k k' tl tl' cs cs' ρ₁ fr₁ l₁ fr₁' l₁' v₁ w₁ :=
 ⟨hs, m.one, m.rel, by rw [m.os, m.os', h.os], Nat.le_trans h.sz m.grow, Nat.le_trans h.sz' m.grow', fun g hg => m.ext _ _ (h.glob g hg)⟩
theorem Lk.tape (h : Lk P F G D k k' tl tl' cs cs' ρ fr l fr' l' v w) (T : Nat -> Question -> Nat) (d : Nat) (T' : Nat -> Question -> Nat) (d' : Nat) : Lk P F G D k k' tl tl' cs cs' ρ fr l fr' l' (re v T d) (re w T' d') :=
 ⟨h.st, h.one, fun r r' hr => h.rel r r' hr, h.os, h.sz, h.sz', h.glob⟩
theorem tied_re (h : Lk P F G D k k' tl tl' cs cs' ρ fr l fr' l' v w) : Tied P.globals.size (re v w.tape w.drawn) w := ⟨fun _ _ => rfl, h.os, h.sz, h.sz'⟩
theorem node_step (hP : SimP P F G D) (hn : NoRec k cs) (hn' : NoRec k' cs') (h : Lk P F G D k k' tl tl' cs cs' ρ fr l fr' l' v w) (hg : Goes1 tl cs fr l) {g₁ : Goroutine} (hst : step P (solo (Go.Conc.G fr l) (re v w.tape w.drawn)) = .next (solo g₁ v₁)) (b' : Bool) :
   (∃ (ρ₁ : Rn) (fr₁ : Frame) (l₁ : List Frame) (fr₁' : Frame) (l₁' : List Frame) (w₁ : World) (es' : Array Event), stepG P b' (Go.Conc.G fr' l') w = .go (Go.Conc.G fr₁' l₁') w₁ es' /\ g₁ = Go.Conc.G fr₁ l₁ /\
       Moved P.globals.size F ρ (re v w.tape w.drawn) w ρ₁ v₁ w₁ /\ SRl P F G D k k' tl tl' cs cs' ρ₁ (fr₁ :: l₁) (fr₁' :: l₁') /\ ∀ e ∈ es', EvR ρ₁ w e) \/
   ∃ (ρ₁ : Rn) (fr₁ : Frame) (l₁ : List Frame) (fr₁' : Frame) (l₁' : List Frame) (v₂ w₁ : World) (es es' : Array Event) (c c' : CommCase) (s : CommShape), stepG P b' (Go.Conc.G fr' l') w = .comm (Go.Conc.G fr₁' l₁') #[c'] true s w₁ es' /\
       stepG P true (Go.Conc.G fr l) (re v w.tape w.drawn) = .comm (Go.Conc.G fr₁ l₁) #[c] true s v₂ es /\ CRel F ρ₁ c c' /\ D c.send.isSome /\ ShOk #[c] s /\ Moved P.globals.size F ρ (re v w.tape w.drawn) w ρ₁ v₂ w₁ /\ SRl P F G D k k' tl tl' cs cs' ρ₁ (fr₁ :: l₁) (fr₁' :: l₁') /\ ∀ e ∈ es', EvR ρ₁ w e := by
 have hs := step_side (w := re v w.tape w.drawn) (b := true) (b' := b') hP h.glob hn hn' h.st h.one (fun r r' hr => h.rel r r' hr) (tied_re h) hg
 rw [step_solo rfl] at hst
 generalize hx : stepG P true (Go.Conc.G fr l) (re v w.tape w.drawn) = x at hs
 generalize hy : stepG P b' (Go.Conc.G fr' l') w = y at hs
 cases hs with
 | @go ρ₁ fr₁ fr₁' l₁ l₁' v₂ w₁ es es' m hsr he =>
   rw [runT_solo_go hx] at hst
   simp only [Stepped.next.injEq] at hst
   obtain ⟨rfl, rfl⟩ := solo_inj hst
   exact .inl ⟨ρ₁, fr₁, l₁, fr₁', l₁', w₁, es', rfl, rfl, m, hsr, he⟩
 | @comm ρ₁ fr₁ fr₁' l₁ l₁' v₂ w₁ es es' c c' s m hsr hc hsh he =>
   cases hc with
   | one hc hd => exact .inr ⟨ρ₁, fr₁, l₁, fr₁', l₁', v₂, w₁, es, es', _, _, s, rfl, rfl, hc, hd, hsh, m, hsr, he⟩
 | @ended o w₁ es x =>
   rw [solo_eq_crowd, runT_many_ended (by rfl) hx] at hst
   cases hst
theorem partners_solo (g : Goroutine) (c : Nat) (b : Bool) : partners ((#[g] : Array Goroutine).setIfInBounds 0 ph) c b = [] := noOffer_others (others_solo g) ph rfl c b
theorem waits_not_running {g g₂ g₁ : Goroutine} {cases : Array CommCase} {shape : CommShape} {es : Array Event} (hr : g.status = .running) (h : stepG P true g v = .comm g₂ cases true shape v₁ es) (hw : ∀ cc ∈ cases, NoWays v₁ ((#[g] : Array Goroutine).setIfInBounds 0 ph) cc) {v₂ : World}
   (hst : step P (solo g v) = .next (solo g₁ v₂)) : g₁.status = .blocked := by
 rw [step_solo hr, solo_eq_crowd, crowd_waits (i := 0) rfl h hw] at hst
 simp only [Stepped.next.injEq] at hst
 have e : (crowd ((#[g] : Array Goroutine).setIfInBounds 0 (parked g₂ cases shape)) v₁ none) = solo (parked g₂ cases shape) v₁ := rfl
 rw [e] at hst
 obtain ⟨rfl, _⟩ := solo_inj hst
 rfl
theorem ill_not_next {g g₂ : Goroutine} {c : CommCase} {shape : CommShape} {es : Array Event} (hr : g.status = .running) (h : stepG P true g v = .comm g₂ #[c] true shape v₁ es) (hw : illMade v₁ c = true) {m : Machine}
   (hst : step P (solo g v) = .next m) : False := by
 rw [step_solo hr, solo_eq_crowd, runT_crowd_comm (i := 0) rfl h] at hst
 unfold communicate at hst
 dsimp only at hst
 have : (#[c] : Array CommCase).any (illMade v₁) = true := by simp [hw]
 split at hst
 · cases hst
 · rename_i hneg
   exact hneg this
theorem chan_of {c : Nat} {cc cc' : CommCase} {fr₁ : Frame} {l₁ : List Frame} {s : CommShape} {es : Array Event} {v₂ : World} {g₁ : Goroutine} (hcc : CRel F ρ₁ cc cc') (hx : stepG P true (Go.Conc.G fr l) v = .comm (Go.Conc.G fr₁ l₁) #[cc] true s v₂ es)
   (hst : step P (solo (Go.Conc.G fr l) v) = .next (solo g₁ v₁)) (hr : g₁.status = .running) (honly : ∀ x y, ρ₁ x y -> chanAt v₂ x -> x = c /\ y = c) : cc.chan = .chan (some c) /\ cc'.chan = .chan (some c) := by
 have hch := hcc.chan
 generalize he : cc.chan = a, he' : cc'.chan = a' at hch
 cases hch with
 | chan hr' =>
   cases hr' with
   | none =>
     exfalso
     have hnw : NoWays v₂ ((#[Go.Conc.G fr l] : Array Goroutine).setIfInBounds 0 ph) cc := by
       refine ⟨by unfold illMade; rw [he], ?_⟩
       unfold ways
       rw [he]
     have := waits_not_running rfl hx (by simpa using hnw) hst
     rw [hr] at this
     cases this
   | @some x y hxy =>
     by_cases hc : chanAt v₂ x
     · obtain ⟨rfl, rfl⟩ := honly x y hxy hc
       exact ⟨rfl, rfl⟩
     · exfalso
       refine ill_not_next rfl hx ?_ hst
       unfold illMade
       rw [he]
       dsimp only
       unfold chanAt isChan at hc
       cases ho : v₂.heap[x]? with
       | none => rfl
       | some o => cases o <;> first | rfl | exact (hc ⟨_, ho, rfl⟩).elim
 | _ => exact (ill_not_next rfl hx (by unfold illMade; rw [he]) hst).elim
theorem comm_eta {c : Nat} {cc : CommCase} (h : cc.chan = .chan (some c)) {x : Value} (hs : cc.send = some x) : cc = scase c x cc.zero := by
 obtain ⟨a, b, z⟩ := cc
 simp only at h hs
 subst h; subst hs
 rfl
theorem comm_eta_r {c : Nat} {cc : CommCase} (h : cc.chan = .chan (some c)) (hs : cc.send = none) : cc = rcase c cc.zero := by
 obtain ⟨a, b, z⟩ := cc
 simp only at h hs
 subst h; subst hs
 rfl
theorem lone_send {c K n r : Nat} {b : Array Value} {x z : Value} {fr₁ : Frame} {l₁ : List Frame} {es : Array Event} {v₂ : World} {g₁ : Goroutine} (hx : stepG P true (Go.Conc.G fr l) v = .comm (Go.Conc.G fr₁ l₁) #[scase c x z] true .send v₂ es)
   (hc : v₂.heap[c]? = some (.chan K b false n r false)) (hroom : b.size < K) (hst : step P (solo (Go.Conc.G fr l) v) = .next (solo g₁ v₁)) : g₁ = Go.Conc.G (fr₁.finish undef) l₁ /\ v₁ = v₂.setChan c K (b.push x) false (n + 1) r false := by
 have h := crowd_send_room (P := P) (gs := #[Go.Conc.G fr l]) (w := v) (sl := none) (i := 0) rfl hx hc hroom (partners_solo _ _ _)
 rw [step_solo rfl, solo_eq_crowd, h] at hst
 simp only [Stepped.next.injEq] at hst
 have e : (crowd ((#[Go.Conc.G fr l] : Array Goroutine).setIfInBounds 0 ((Go.Conc.G fr₁ l₁).finishComm P #[scase c x z] .send 0 undef false)) (v₂.setChan c K (b.push x) false (n + 1) r false) none) = solo (Go.Conc.G (fr₁.finish undef) l₁) (v₂.setChan c K (b.push x) false (n + 1) r false) := rfl
 rw [e] at hst
 obtain ⟨rfl, rfl⟩ := solo_inj hst
 exact ⟨rfl, rfl⟩
theorem lone_recv {c K n r : Nat} {b : Array Value} {z : Value} {ok : Bool} {fr₁ : Frame} {l₁ : List Frame} {es : Array Event} {v₂ : World} {g₁ : Goroutine} (hx : stepG P true (Go.Conc.G fr l) v = .comm (Go.Conc.G fr₁ l₁) #[rcase c z] true (.recv ok) v₂ es)
   (hc : v₂.heap[c]? = some (.chan K b false n r false)) (hsome : 0 < b.size) (hst : step P (solo (Go.Conc.G fr l) v) = .next (solo g₁ v₁)) : g₁ = Go.Conc.G (fr₁.finish (recvd ok (b.getD 0 undef) true)) l₁ /\ v₁ = v₂.setChan c K (b.extract 1 b.size) false n (r + 1) false := by
 have h := crowd_recv_buf (P := P) (gs := #[Go.Conc.G fr l]) (w := v) (sl := none) (i := 0) rfl hx hc hsome (partners_solo _ _ _)
 rw [step_solo rfl, solo_eq_crowd, h] at hst
 simp only [Stepped.next.injEq] at hst
 have e : (crowd ((#[Go.Conc.G fr l] : Array Goroutine).setIfInBounds 0 ((Go.Conc.G fr₁ l₁).finishComm P #[rcase c z] (.recv ok) 0 (b.getD 0 undef) true)) (v₂.setChan c K (b.extract 1 b.size) false n (r + 1) false) none) = solo (Go.Conc.G (fr₁.finish (recvd ok (b.getD 0 undef) true)) l₁) (v₂.setChan c K (b.extract 1 b.size) false n (r + 1) false) := by
   rw [finishComm_recv]; rfl
 rw [e] at hst
 obtain ⟨rfl, rfl⟩ := solo_inj hst
 exact ⟨rfl, rfl⟩
theorem lone_recv_empty {c K n r : Nat} {z : Value} {ok : Bool} {fr₁ : Frame} {l₁ : List Frame} {es : Array Event} {v₂ : World} {g₁ : Goroutine} (hx : stepG P true (Go.Conc.G fr l) v = .comm (Go.Conc.G fr₁ l₁) #[rcase c z] true (.recv ok) v₂ es)
   (hc : v₂.heap[c]? = some (.chan K #[] false n r false)) (hst : step P (solo (Go.Conc.G fr l) v) = .next (solo g₁ v₁)) : g₁.status = .blocked :=
 waits_not_running rfl hx (by
   intro cc hcc
   have e : cc = rcase c z := by simpa using hcc
   subst e
   exact ways_recv_none hc (partners_solo _ _ _)) hst
/-! ### the lowest frame's leaving ends the run of one -/
def bottom (f : FuncId) (c : Nat) : Frame := { fn := f, tmps := #[], todo := [.code (.refuse "")], defers := [{ target := .collected c, args := #[] }], mode := .run, kind := .normal }
theorem step_ended {g : Goroutine} (hr : g.status = .running) {o : Outcome} {es : Array Event} (h : stepG P true g v = .ended o v₁ es) {m : Machine} (hst : step P (solo g v) = .next m) : False := by
 rw [step_solo hr, solo_eq_crowd, runT_many_ended (by rfl) h] at hst
 cases hst
theorem no_leave {X : Goroutine -> World -> Prop} {f : FuncId} {c : Nat} {fn : Func} (hf : P.funcs[fr.fn]? = some fn) (hk : fr.kind = .normal) (hm : fr.mode ≠ .run) (hd : fr.defers = []) (hc : chanAt v c) (hX : ∀ g w, X g w -> g.callers ≠ [])
   (h : Must P X (Go.Conc.G fr [bottom f c]) v) : ∀ T d, X (Go.Conc.G fr [bottom f c]) (re v T d) := by
 cases h with
 | stop h => exact h
 | step hr ht g' w' h1 h2 h3 =>
   exfalso
   have h2' : step P (solo (Go.Conc.G fr [bottom f c]) v) = .next (solo (g' v.tape v.drawn) (w' v.tape v.drawn)) := h2 v.tape v.drawn
   have h3' := h3 v.tape v.drawn
   generalize g' v.tape v.drawn = g₁ at h2' h3'
   generalize w' v.tape v.drawn = v₁ at h2' h3'
   have hcat : fr.catches P = false := by unfold Frame.catches; rw [hf]
   have e0 : stepG P true (Go.Conc.G fr [bottom f c]) v = unwind P true fr [bottom f c] none v := by
     unfold stepG Go.Conc.G
     dsimp only
     cases hmm : fr.mode with
     | run => exact absurd hmm hm
     | returning => rfl
     | panicking x => rfl
   have quit : ∀ {a : Frame} {es : Array Event} {v₂ : World}, stepG P true (Go.Conc.G fr [bottom f c]) v = .go (Go.Conc.G a []) v₂ es -> (∀ T d, ∃ o v' es, stepG P true (Go.Conc.G a []) (re v₂ T d) = .ended o v' es) -> False := by
     intro a es v₂ hs hend
     rw [step_solo rfl, runT_solo_go hs] at h2'
     simp only [Stepped.next.injEq] at h2'
     obtain ⟨rfl, rfl⟩ := solo_inj h2'
     cases h3' with
     | stop hx => exact hX _ _ (hx v.tape v.drawn) rfl
     | step _ _ _ _ _ k2 _ =>
       obtain ⟨o, v', es', he⟩ := hend v.tape v.drawn
       exact step_ended rfl he (k2 v.tape v.drawn)
   unfold unwind at e0
   rw [hd] at e0
   dsimp only at e0
   cases hmm : fr.mode with
   | run => exact absurd hmm hm
   | returning =>
     rw [hmm, hf] at e0
     dsimp only at e0
     cases hres : ((results fn fr.tmps).runT P v #[]).1 with
     | ok val v₂ =>
       rw [hres] at e0
       unfold doReturn at e0
       rw [hk] at e0
       exact quit (a := bottom f c) e0 fun T d => ⟨_, _, _, rfl⟩
     | halt hh v₂ =>
       rw [hres] at e0
       cases hh <;> exact step_ended rfl e0 h2'
   | panicking chain =>
     rw [hmm, hcat] at e0
     simp only [Bool.false_eq_true, if_false] at e0
     refine quit (a := (bottom f c).raise chain) e0 fun T d => ?_
     obtain ⟨o, ho, hch⟩ := hc
     refine ⟨.stuck "the deferred calls of a range-over-func loop have been taken" (Frame.pos P ((bottom f c).raise chain)), re v T d, ?_⟩
     have hrun : ∃ es, (Instr.takeDeferred c).runT P (re v T d) #[] = (.halt (.stuck "range over a function: the deferred calls have been taken") (re v T d), es) := by
       have ho' : (re v T d).heap[c]? = some o := ho
       unfold Instr.takeDeferred getObj
       cases o <;> first | (cases hch; done) | skip
       simp only [Bind.bind, Sem.bind, Sem.runT, ho']
       exact ⟨_, rfl⟩
     obtain ⟨es, hrun⟩ := hrun
     refine ⟨seen P f es ++ #[], ?_⟩
     have e1 : stepG P true (Go.Conc.G ((bottom f c).raise chain) []) (re v T d) = unwind P true ((bottom f c).raise chain) [] none (re v T d) := rfl
     rw [e1]
     have e2 : unwind P true ((bottom f c).raise chain) [] none (re v T d) = GStep.after (seen P f ((Instr.takeDeferred c).runT P (re v T d) #[]).2) (match ((Instr.takeDeferred c).runT P (re v T d) #[]).1 with
       | .ok calls w => .go { frame := { (bottom f c).raise chain with defers := calls ++ [] }, callers := [], status := .running, dying := none } w
       | .halt _ w => .ended (.stuck "the deferred calls of a range-over-func loop have been taken" (Frame.pos P ((bottom f c).raise chain))) w) := rfl
     rw [e2, hrun]
     rfl
end
end Go.Bsd
namespace Go.Bsd
open Go.Conc
structure PlainV (v : Value) : Prop where
 gr : Gr v
 fix : ∀ (F : FuncId -> Prop) (ρ : Rn) (v' : Value), VRel F ρ v v' -> v' = v
def put (w : World) (c : Nat) (o : Obj) : World := { w with heap := w.heap.setIfInBounds c o }
theorem put_same {w : World} {c : Nat} {o : Obj} (h : w.heap[c]? = some o) : put w c o = w := by
 unfold put
 have : w.heap.setIfInBounds c o = w.heap := by
   apply Array.ext_getElem?
   intro j
   by_cases hj : c = j
   · subst hj
     rw [Array.getElem?_setIfInBounds_self_of_lt (lt_of_some h), h]
   · rw [Array.getElem?_setIfInBounds_ne hj]
 rw [this]
theorem put_at {w : World} {c : Nat} {o : Obj} (h : c < w.heap.size) : (put w c o).heap[c]? = some o := Array.getElem?_setIfInBounds_self_of_lt h
theorem put_ne {w : World} {c j : Nat} {o : Obj} (h : c ≠ j) : (put w c o).heap[j]? = w.heap[j]? := Array.getElem?_setIfInBounds_ne h
theorem put_size (w : World) (c : Nat) (o : Obj) : (put w c o).heap.size = w.heap.size := by simp [put]
theorem setChan_put (w : World) (c cap : Nat) (b : Array Value) (cl : Bool) (s r : Nat) (tm : Bool) : w.setChan c cap b cl s r tm = put w c (.chan cap b cl s r tm) := rfl
structure Nd where
 ρ : Rn
 fr : Frame
 l : List Frame
 fr' : Frame
 l' : List Frame
 v : World
section
variable {P : Program} {F : FuncId -> Prop} {G : Nat -> Prop} {D : Bool -> Prop} {k k' : CallKind} {tl tl' : List Deferred} {cs cs' : List Frame}
theorem wrel_put {ρ : Rn} {v w : World} {c : Nat} (h1 : ∀ x x' y y', ρ x x' -> ρ y y' -> (x = y ↔ x' = y')) (hcc : ρ c c) (h : WRel F ρ v w) {o o' : Obj} (ho : ObRel F ρ o o') : WRel F ρ (put v c o) (put w c o') := by
 intro r r' hr
 obtain ⟨a, b, e1, e2, hab⟩ := h r r' hr
 obtain ⟨_, _, f1, f2, _⟩ := h c c hcc
 by_cases e : c = r
 · have e' := (h1 c c r r' hcc hr).1 e
   subst e; subst e'
   exact ⟨o, o', put_at (lt_of_some e1), put_at (lt_of_some e2), ho⟩
 · have e' : ¬ c = r' := fun k => e ((h1 c c r r' hcc hr).2 k)
   exact ⟨a, b, (put_ne e).trans e1, (put_ne e').trans e2, hab⟩
theorem rel_beside {N : Nat} {F' : FuncId -> Prop} {ρ ρ₁ ρ' : Rn} {a b v w w₁ : World} {c : Nat} (h : WRel F' ρ' v w) (m : Moved N F ρ a w ρ₁ b w₁) (hd : ∀ x x' y, ρ x y -> ρ' x' y -> y = c) (hc : chanAt w c) : WRel F' ρ' v w₁ := by
 intro r r' hr
 obtain ⟨o, o', e1, e2, ho⟩ := h r r' hr
 refine ⟨o, o', e1, ?_, ho⟩
 by_cases hx : ∃ x, ρ x r'
 · obtain ⟨x, hx⟩ := hx
   have e := hd x r r' hx hr
   subst e
   obtain ⟨u, k1, k2⟩ := hc
   rw [e2] at k1
   cases k1
   exact m.chan' _ _ e2 k2
 · rw [m.keep' r' (lt_of_some e2) (fun x h => hx ⟨x, h⟩)]
   exact e2
end
structure Core (P : Program) (Fp Fc : FuncId -> Prop) (Gp Gc : Nat -> Prop) (f : FuncId) (c cap K : Nat) (L : List Value) (closeD : Deferred) (child : Frame) (l0 : List Frame) (w0 : World) (Gb : Nat -> Prop)
   (p q : Nd) (w : World) (sent rcvd mp mc : Nat) (bp bc buf : Array Value) (closed : Bool) : Prop where
 lkp : Lk P Fp Gp (fun b => b = true) .normal .deferred [] [closeD] [bottom f c] [child] p.ρ p.fr p.l p.fr' p.l' p.v w
 lkc : Lk P Fc Gc (fun b => b = false) .normal .normal [] [] [bottom f c] l0 q.ρ q.fr q.l q.fr' q.l' q.v w
 vpc : p.v.heap[c]? = some (.chan K bp false bp.size 0 false)
 vcc : ∃ a b, q.v.heap[c]? = some (.chan K bc false a b false)
 tp : bp.toList = L.take mp
 tc : bc.toList = L.drop mc
 wc : w.heap[c]? = some (.chan cap buf closed sent rcvd false)
 tb : buf.toList = (L.drop rcvd).take (sent - rcvd)
 le : rcvd <= sent
 room : L.length < K
 sp : p.ρ c c
 sc : q.ρ c c
 disj : ∀ x x' y, p.ρ x y -> q.ρ x' y -> y = c
 oldp : ∀ x y, p.ρ x y -> y < w0.heap.size -> x = y /\ (Gb y \/ y = c)
 oldc : ∀ x y, q.ρ x y -> y < w0.heap.size -> y = c
 keep : ∀ y : Nat, y < w0.heap.size -> (∀ x, ¬ p.ρ x y) -> (∀ x, ¬ q.ρ x y) -> w.heap[y]? = w0.heap[y]?
 grow : w0.heap.size <= w.heap.size
 os : w.os = w0.os
 out : w.output = w0.output
 onlyp : ∀ x y, p.ρ x y -> chanAt p.v x -> x = c /\ y = c
 onlyc : ∀ x y, q.ρ x y -> chanAt q.v x -> x = c /\ y = c
 idp : ∀ x, Gb x -> p.ρ x x
section
variable {P : Program} {Fp Fc : FuncId -> Prop} {Gp Gc : Nat -> Prop} {f : FuncId} {c cap K : Nat} {L : List Value} {closeD : Deferred} {child : Frame} {l0 : List Frame} {w0 : World} {Gb : Nat -> Prop} {p q : Nd} {w : World} {sent rcvd mp mc : Nat} {bp bc buf : Array Value} {closed : Bool}
theorem Core.chan (h : Core P Fp Fc Gp Gc f c cap K L closeD child l0 w0 Gb p q w sent rcvd mp mc bp bc buf closed) : chanAt w c := ⟨_, h.wc, rfl⟩
theorem Core.p_moved (h : Core P Fp Fc Gp Gc f c cap K L closeD child l0 w0 Gb p q w sent rcvd mp mc bp bc buf closed) {ρ₁ : Rn} {v₁ w₁ : World} {T : Nat -> Question -> Nat} {d : Nat} (m : Moved P.globals.size Fp p.ρ (re p.v T d) w ρ₁ v₁ w₁) {a a' : Frame} {l l' : List Frame}
   (hs : SRl P Fp Gp (fun b => b = true) .normal .deferred [] [closeD] [bottom f c] [child] ρ₁ (a :: l) (a' :: l')) : Core P Fp Fc Gp Gc f c cap K L closeD child l0 w0 Gb ⟨ρ₁, a, l, a', l', v₁⟩ q w₁ sent rcvd mp mc bp bc buf closed := by
 have hlt : ∀ x y, q.ρ x y -> y < w.heap.size := fun x y hxy => (h.lkc.rel.lt hxy).2
 refine ⟨(h.lkp.tape T d w.tape w.drawn).moved m hs, ⟨h.lkc.st, h.lkc.one, rel_beside h.lkc.rel m h.disj h.chan, by rw [m.os', h.lkc.os], h.lkc.sz, Nat.le_trans h.lkc.sz' m.grow', h.lkc.glob⟩, m.chan c _ h.vpc rfl, h.vcc, h.tp, h.tc, m.chan' c _ h.wc rfl, h.tb, h.le, h.room, m.ext _ _ h.sp, h.sc, ?_, ?_, h.oldc, ?_,
   Nat.le_trans h.grow m.grow', by rw [m.os', h.os], by rw [m.output', h.out], ?_, h.onlyc, fun x hx => m.ext _ _ (h.idp x hx)⟩
 · intro x x' y hx hx'
   rcases m.new x y hx with k | ⟨_, k⟩
   · exact h.disj x x' y k hx'
   · have := hlt x' y hx'; omega
 · intro x y hx hy
   rcases m.new x y hx with k | ⟨_, k⟩
   · exact h.oldp x y k hy
   · have := h.grow; omega
 · intro y hy h1 h2
   have h3 : ∀ x, ¬ p.ρ x y := fun x k => h1 x (m.ext _ _ k)
   rw [m.keep' y (Nat.lt_of_lt_of_le hy h.grow) h3]
   exact h.keep y hy h3 h2
 · intro x y hx ⟨o, k1, k2⟩
   have k3 := m.only x o k1 k2
   rcases m.new x y hx with k | ⟨k, _⟩
   · exact h.onlyp x y k ⟨o, k3, k2⟩
   · have := lt_of_some k3
     exact absurd k (by show ¬ (re p.v T d).heap.size <= x; omega)
theorem Core.c_moved (h : Core P Fp Fc Gp Gc f c cap K L closeD child l0 w0 Gb p q w sent rcvd mp mc bp bc buf closed) {ρ₁ : Rn} {v₁ w₁ : World} {T : Nat -> Question -> Nat} {d : Nat} (m : Moved P.globals.size Fc q.ρ (re q.v T d) w ρ₁ v₁ w₁) {a a' : Frame} {l l' : List Frame}
   (hs : SRl P Fc Gc (fun b => b = false) .normal .normal [] [] [bottom f c] l0 ρ₁ (a :: l) (a' :: l')) : Core P Fp Fc Gp Gc f c cap K L closeD child l0 w0 Gb p ⟨ρ₁, a, l, a', l', v₁⟩ w₁ sent rcvd mp mc bp bc buf closed := by
 have hlt : ∀ x y, p.ρ x y -> y < w.heap.size := fun x y hxy => (h.lkp.rel.lt hxy).2
 obtain ⟨ca, cb, hvc⟩ := h.vcc
 refine ⟨⟨h.lkp.st, h.lkp.one, rel_beside h.lkp.rel m (fun x x' y a b => h.disj x' x y b a) h.chan, by rw [m.os', h.lkp.os], h.lkp.sz, Nat.le_trans h.lkp.sz' m.grow', h.lkp.glob⟩, (h.lkc.tape T d w.tape w.drawn).moved m hs, h.vpc, ⟨ca, cb, m.chan c _ hvc rfl⟩, h.tp, h.tc, m.chan' c _ h.wc rfl, h.tb, h.le, h.room, h.sp, m.ext _ _ h.sc, ?_, h.oldp, ?_, ?_,
   Nat.le_trans h.grow m.grow', by rw [m.os', h.os], by rw [m.output', h.out], h.onlyp, ?_, h.idp⟩
 · intro x x' y hx hx'
   rcases m.new x' y hx' with k | ⟨_, k⟩
   · exact h.disj x x' y hx k
   · have := hlt x y hx; omega
 · intro x y hx hy
   rcases m.new x y hx with k | ⟨_, k⟩
   · exact h.oldc x y k hy
   · have := h.grow; omega
 · intro y hy h1 h2
   have h3 : ∀ x, ¬ q.ρ x y := fun x k => h2 x (m.ext _ _ k)
   rw [m.keep' y (Nat.lt_of_lt_of_le hy h.grow) h3]
   exact h.keep y hy h1 h3
 · intro x y hx ⟨o, k1, k2⟩
   have k3 := m.only x o k1 k2
   rcases m.new x y hx with k | ⟨k, _⟩
   · exact h.onlyc x y k ⟨o, k3, k2⟩
   · have := lt_of_some k3
     exact absurd k (by show ¬ (re q.v T d).heap.size <= x; omega)
theorem Core.at (h : Core P Fp Fc Gp Gc f c cap K L closeD child l0 w0 Gb p q w sent rcvd mp mc bp bc buf closed) (d : Nat) : Core P Fp Fc Gp Gc f c cap K L closeD child l0 w0 Gb p q (w.at d) sent rcvd mp mc bp bc buf closed :=
 ⟨⟨h.lkp.st, h.lkp.one, h.lkp.rel, h.lkp.os, h.lkp.sz, h.lkp.sz', h.lkp.glob⟩, ⟨h.lkc.st, h.lkc.one, h.lkc.rel, h.lkc.os, h.lkc.sz, h.lkc.sz', h.lkc.glob⟩, h.vpc, h.vcc, h.tp, h.tc, h.wc, h.tb, h.le, h.room, h.sp, h.sc, h.disj, h.oldp, h.oldc, h.keep, h.grow, h.os, h.out, h.onlyp, h.onlyc, h.idp⟩
theorem Core.turn (h : Core P Fp Fc Gp Gc f c cap K L closeD child l0 w0 Gb p q w sent rcvd mp mc bp bc buf closed) {a a' b b' : Frame} (hp : SRl P Fp Gp (fun b => b = true) .normal .deferred [] [closeD] [bottom f c] [child] p.ρ (a :: p.l) (a' :: p.l')) (hq : SRl P Fc Gc (fun b => b = false) .normal .normal [] [] [bottom f c] l0 q.ρ (b :: q.l) (b' :: q.l'))
   {sent' rcvd' mp' mc' x y : Nat} {bp' bc' buf' : Array Value} {closed' : Bool} (tp : bp'.toList = L.take mp') (tc : bc'.toList = L.drop mc') (tb : buf'.toList = (L.drop rcvd').take (sent' - rcvd')) (le : rcvd' <= sent') :
   Core P Fp Fc Gp Gc f c cap K L closeD child l0 w0 Gb { p with fr := a, fr' := a', v := put p.v c (.chan K bp' false bp'.size 0 false) } { q with fr := b, fr' := b', v := put q.v c (.chan K bc' false x y false) } (put w c (.chan cap buf' closed' sent' rcvd' false)) sent' rcvd' mp' mc' bp' bc' buf' closed' := by
 obtain ⟨ca, cb, hvc⟩ := h.vcc
 have hl : c < w.heap.size := lt_of_some h.wc
 have only : ∀ {v : World} {o : Obj} {z : Nat}, chanAt v c -> chanAt (put v c o) z -> chanAt v z := by
   rintro v o z hc ⟨u, k1, k2⟩
   by_cases e : c = z
   · exact e ▸ hc
   · rw [put_ne e] at k1; exact ⟨u, k1, k2⟩
 refine ⟨⟨hp, h.lkp.one, wrel_put h.lkp.one.inj h.sp h.lkp.rel (.chan ..), h.lkp.os, by rw [put_size]; exact h.lkp.sz, by rw [put_size]; exact h.lkp.sz', h.lkp.glob⟩,
   ⟨hq, h.lkc.one, wrel_put h.lkc.one.inj h.sc h.lkc.rel (.chan ..), h.lkc.os, by rw [put_size]; exact h.lkc.sz, by rw [put_size]; exact h.lkc.sz', h.lkc.glob⟩,
   put_at (lt_of_some h.vpc), ⟨x, y, put_at (lt_of_some hvc)⟩, tp, tc, put_at hl, tb, le, h.room, h.sp, h.sc, h.disj, h.oldp, h.oldc, fun z hz h1 h2 => ?_, by rw [put_size]; exact h.grow, h.os, h.out,
   fun z z' hz hc => h.onlyp z z' hz (only ⟨_, h.vpc, rfl⟩ hc), fun z z' hz hc => h.onlyc z z' hz (only ⟨_, hvc, rfl⟩ hc), h.idp⟩
 by_cases e : c = z
 · exact (h1 c (e ▸ h.sp)).elim
 · rw [put_ne e]; exact h.keep z hz h1 h2
end
end Go.Bsd
namespace Go.Bsd
open Go.Conc
def dom (ρ : Rn) : Rn := fun x y => x = y /\ ∃ z, ρ x z
section
variable {F : FuncId -> Prop} {ρ : Rn}
end
section
variable {P : Program} {F : FuncId -> Prop} {G : Nat -> Prop} {f : FuncId} {c K : Nat} {L : List Value} {X : Goroutine -> World -> Prop}
theorem noRec_normal (cs : List Frame) : NoRec .normal cs := ⟨fun fr h => by unfold tryRecover; rw [h], by simp⟩
theorem goes_or_end {D : Bool -> Prop} (hP : SimP P F G D) {k' : CallKind} {tl' : List Deferred} {cs' : List Frame} {ρ : Rn} {fr fr' : Frame} {l l' : List Frame} {v : World} (hs : SRl P F G D .normal k' [] tl' [bottom f c] cs' ρ (fr :: l) (fr' :: l'))
   (hc : chanAt v c) (hX : ∀ g w, X g w -> g.callers ≠ []) (hM : Must P X (Go.Conc.G fr l) v) : Goes1 [] [bottom f c] fr l \/ ∀ T d, X (Go.Conc.G fr l) (re v T d) := by
 by_cases hg : Goes1 [] [bottom f c] fr l
 · exact .inl hg
 · right
   unfold Goes1 at hg
   simp only [Classical.not_imp, Classical.not_not] at hg
   obtain ⟨h1, h2, h3⟩ := hg
   cases hs with
   | base h hk hk' =>
     obtain ⟨fn, hfn⟩ := h.mem
     exact no_leave hfn hk h1 h2 hc hX hM
   | push h hk hk' hl =>
     exfalso
     have : ∀ {a b : List Frame}, SRl P F G D .normal k' [] tl' [bottom f c] cs' ρ a b -> 2 <= a.length := by
       intro a b hab
       cases hab with
       | base => simp
       | push _ _ _ hab => cases hab <;> simp
     have := this hl
     simp at h3
     omega
def OnlyC (ρ : Rn) (v : World) (c : Nat) : Prop := ∀ x y, ρ x y -> chanAt v x -> x = c /\ y = c
theorem onlyC_moved {N : Nat} {ρ ρ₁ : Rn} {v w v₁ w₁ : World} (m : Moved N F ρ v w ρ₁ v₁ w₁) (h : OnlyC ρ v c) : OnlyC ρ₁ v₁ c := by
 rintro x y hx ⟨o, k1, k2⟩
 have k3 := m.only x o k1 k2
 rcases m.new x y hx with k | ⟨k, _⟩
 · exact h x y k ⟨o, k3, k2⟩
 · have := lt_of_some k3
   omega
theorem onlyC_put {ρ : Rn} {v : World} {o : Obj} (hc : chanAt v c) (h : OnlyC ρ v c) : OnlyC ρ (put v c o) c := by
 rintro z z' hz ⟨u, k1, k2⟩
 by_cases e : c = z
 · exact h z z' hz (e ▸ hc)
 · rw [put_ne e] at k1
   exact h z z' hz ⟨u, k1, k2⟩
theorem must_prefix (hP : SimP P F G (fun b => b = true)) {k' : CallKind} {tl' : List Deferred} {cs' : List Frame} (hN : NoRec k' cs') (hX1 : ∀ g w, X g w -> g.callers ≠ []) (hX2 : ∀ g w (b : Array Value) n r, X g w -> w.heap[c]? = some (.chan K b false n r false) -> b.toList = L) :
   ∀ (g : Goroutine) (v : World), Must P X g v -> ∀ (ρ : Rn) (fr : Frame) (l : List Frame) (fr' : Frame) (l' : List Frame) (w : World) (b : Array Value) (n r : Nat), g = Go.Conc.G fr l -> Lk P F G (fun b => b = true) .normal k' [] tl' [bottom f c] cs' ρ fr l fr' l' v w -> ρ c c -> OnlyC ρ v c ->
     v.heap[c]? = some (.chan K b false n r false) -> b.toList <+: L := by
 intro g v hM
 induction hM with
 | stop h =>
   intro ρ fr l fr' l' w b n r hg hl hcc ho hc
   rw [hX2 _ _ b n r (h (fun _ _ => 0) 0) hc]
   exact List.prefix_refl _
 | @step g v hr ht g' v' h1 h2 h3 ih =>
   intro ρ fr l fr' l' w b n r hg hl hcc ho hc
   subst hg
   have hch : chanAt v c := ⟨_, hc, rfl⟩
   rcases goes_or_end hP hl.st hch hX1 (.step hr ht g' v' h1 h2 h3) with hgo | hend
   case inr =>
     rw [hX2 _ _ b n r (hend (fun _ _ => 0) 0) hc]
     exact List.prefix_refl _
   case inl =>
     have hst : step P (solo (Go.Conc.G fr l) (re v w.tape w.drawn)) = .next (solo (g' w.tape w.drawn) (v' w.tape w.drawn)) := h2 w.tape w.drawn
     have hrun := h1 w.tape w.drawn
     have ih' := ih w.tape w.drawn
     generalize g' w.tape w.drawn = g₁ at hst hrun ih'
     generalize v' w.tape w.drawn = v₁ at hst ih'
     rcases node_step hP (noRec_normal _) hN hl hgo hst true with ⟨ρ₁, fr₁, l₁, fr₁', l₁', w₁, es', e1, e2, m, hs, he⟩ | ⟨ρ₁, fr₁, l₁, fr₁', l₁', v₂, w₁, es, es', cc, cc', s, e1, e2, hcc', hD, hsh, m, hs, he⟩
     · subst e2
       have hl₁ : Lk P F G (fun b => b = true) .normal k' [] tl' [bottom f c] cs' ρ₁ fr₁ l₁ fr₁' l₁' v₁ w₁ := (hl.tape w.tape w.drawn w.tape w.drawn).moved m hs
       exact ih' ρ₁ fr₁ l₁ fr₁' l₁' w₁ b n r rfl hl₁ (m.ext _ _ hcc) (onlyC_moved m ho) (m.chan c _ hc rfl)
     · have ho₂ : OnlyC ρ₁ v₂ c := onlyC_moved m ho
       obtain ⟨q1, q2⟩ := chan_of hcc' e2 hst hrun ho₂
       have hc₂ : v₂.heap[c]? = some (.chan K b false n r false) := m.chan c _ hc rfl
       obtain ⟨x, hx⟩ : ∃ x, cc.send = some x := Option.isSome_iff_exists.1 hD
       have hs' : s = .send := by
         cases s with
         | send => rfl
         | recv ok => have := hsh cc (by simp); rw [hx] at this; cases this
         | select => exact hsh.elim
       subst hs'
       rw [comm_eta q1 hx] at e2
       by_cases hroom : b.size < K
       · obtain ⟨rfl, rfl⟩ := lone_send e2 hc₂ hroom hst
         have hl₁ : Lk P F G (fun b => b = true) .normal k' [] tl' [bottom f c] cs' ρ₁ fr₁ l₁ fr₁' l₁' v₂ w₁ := (hl.tape w.tape w.drawn w.tape w.drawn).moved m hs
         have hput : Lk P F G (fun b => b = true) .normal k' [] tl' [bottom f c] cs' ρ₁ (fr₁.finish undef) l₁ (fr₁'.finish undef) l₁' (v₂.setChan c K (b.push x) false (n + 1) r false) (put w₁ c (.chan K (b.push x) false (n + 1) r false)) := by
           rw [setChan_put]
           exact ⟨hl₁.st.swap (fun _ _ h => h.finish .undefs) (kind_finish _ _) (kind_finish _ _), hl₁.one, wrel_put hl₁.one.inj (m.ext _ _ hcc) hl₁.rel (.chan ..), hl₁.os, by rw [put_size]; exact hl₁.sz, by rw [put_size]; exact hl₁.sz', hl₁.glob⟩
         have := ih' ρ₁ _ l₁ _ l₁' _ (b.push x) (n + 1) r rfl hput (m.ext _ _ hcc) (by rw [setChan_put]; exact onlyC_put ⟨_, hc₂, rfl⟩ ho₂) (by rw [setChan_put]; exact put_at (lt_of_some hc₂))
         rw [Array.toList_push] at this
         exact (List.prefix_append _ _).trans this
       · exfalso
         have := waits_not_running rfl e2 (by
           intro y hy
           have e : y = scase c x cc.zero := by simpa using hy
           subst e
           exact ways_send_none hc₂ (by omega) (partners_solo _ _ _)) hst
         rw [hrun] at this
         cases this
end
end Go.Bsd
