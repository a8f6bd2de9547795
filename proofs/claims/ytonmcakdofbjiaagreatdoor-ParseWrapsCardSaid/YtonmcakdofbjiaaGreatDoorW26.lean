/-
  The parts: Shp11 Sam1 Fix1 Fix2 Fix3 Is1 Wrp1 Wrp2 Wrp3
-/
import Derived.Test.YtonmcakdofbjiaaGreatDoorW25
import Derived.Laws.StructEq
import Derived.Test.YtonmcakdofbjiaaGreatDoorW22
import Derived.Test.YtonmcakdofbjiaaGreatDoorW23
import Derived.Test.YtonmcakdofbjiaaGreatDoorW16
import Derived.WalkKit
import Derived.LaidEql
import Derived.Stop.Asserts
set_option linter.unusedVariables false
set_option linter.unusedSimpArgs false
set_option linter.unusedSectionVars false
set_option linter.unnecessarySimpa false
namespace Go.Proofs.YtonmcakdofbjiaaGreatDoor
open Go.RowKit
def NodesAt (w : World) (v : Value) (l : List Nd) : Prop :=
  ∃ b cap, v = .slice b l.length cap ∧ l.length ≤ cap ∧ (l ≠ [] → ∃ g off, b = some ⟨g, off, none⟩ ∧ ∀ (j : Nat) (n : Nd), l[j]? = some n → ∀ (k : Nat) (c : Value), n.cells[k]? = some c → w.cell? ⟨g, off + j * 6 + k, none⟩ = some c)
theorem NodesAt.kin {w w' : World} {v : Value} {l : List Nd} (h : NodesAt w v l) (k : Kin w w') : NodesAt w' v l := by
  obtain ⟨b, cap, h1, h2, h3⟩ := h
  refine ⟨b, cap, h1, h2, fun hl => ?_⟩
  obtain ⟨g, off, h4, h5⟩ := h3 hl
  refine ⟨g, off, h4, fun j n hj x c hc => ?_⟩
  have := h5 j n hj x c hc
  exact (k.cell (World.block_lt_of_cell? w ⟨g, _, none⟩ this)).trans this
theorem ShM.start {w : World} {c : Array Value} {B : Nat} (hc : c.size = 104) (hB : B ≤ w.heap.size) : ShM ((w.alloc (.cells c 157)).alloc (.cells #[.slice (some ⟨w.heap.size, 0, none⟩) 0 26, .bool true] 100)) B (w.heap.size + 1) w.heap.size [] true := by
  have h1 := (World.rowIs_alloc w c 157 (fun i => c[i]?.getD undef) fun i hi => by simp [hi]).alloc (.cells #[.slice (some ⟨w.heap.size, 0, none⟩) 0 26, .bool true] 100)
  have h2 := World.rowIs_alloc (w.alloc (.cells c 157)) #[.slice (some ⟨w.heap.size, 0, none⟩) 0 26, .bool true] 100 (shF w.heap.size 0 true) (fun i hi => by
    match i, hi with
    | 0, _ => rfl
    | 1, _ => rfl)
  rw [hc] at h1
  have hs : (w.alloc (.cells c 157)).heap.size = w.heap.size + 1 := by simp
  rw [hs] at h2
  exact ⟨h2, ⟨_, h1, fun j h hj => by simp at hj⟩, by simp, by omega, by omega, hB⟩
theorem four_cell (w : World) (a b c d e f : Value) : (w.alloc (.cells #[a, b, c, d, e, f] 50)).cell? ⟨w.heap.size, 0, none⟩ = some a := by
  simp [go_sem]
theorem make26 : ∃ c : Array Value, c.size = 104 ∧ ∀ u : World, (Instr.makeSlice 98 (.int .i64 0) (.int .i64 26)).run Tryz.prog u = .ok (.slice (some ⟨u.heap.size, 0, none⟩) 0 26) (u.alloc (.cells c 157)) := by
  obtain ⟨ti, hi, hz0, hz1, hz2⟩ := info_parts info157
  have h := fun u : World => run_make (P := Tryz.prog) u 98 157 ti _ Tryz.underlying98 hi hz0 .i64 .i64 0 26 (by omega) (by omega) (by rw [hz2]; decide) (by omega)
  refine ⟨_, ?_, h⟩
  rw [size_madeCells]
  show 26 * ti.size = 104
  rw [hz1]
set_option maxRecDepth 100000 in
set_option maxHeartbeats 8000000 in
theorem shape_any (l : List Nd) (hl : ∀ n ∈ l, n.name.size ≤ 140737488355328 ∧ -9223372036854775808 ≤ n.depth ∧ n.depth ≤ 9223372036854775807) (hlen : l.length ≤ 9223372036854775807) (v : Value) (w : World) (h : NodesAt w v l) :
    Calls Tryz.prog 18 #[v] w fun e w' => e = .returned (.tuple #[.int .i64 (shapeF l).1, .int .i64 (shapeF l).2]) ∧ Kin w w' := by
  have HL := Lib.hid hl
  have HN := Lib.hid h
  clear hl
  obtain ⟨b, cap, rfl, hcap, hne⟩ := h
  have HNE := Lib.hid hne
  clear hne
  by_cases hm : 300 < l.length
  · have hs : shapeF l = (32, 300) := by unfold shapeF; rw [if_pos hm]
    have hd : decide ((300 : Int) < (l.length : Int)) = true := by simp; omega
    rw [hs]
    clear hs hm
    go_enter Tryz.func18, Tryz.ntmps18
    go_wp2
    go_ret2
    exact ⟨rfl, Kin.refl _⟩
  · have hs : shapeF l = shapeG [] true 0 l := by unfold shapeF; rw [if_neg hm]
    have hd : decide ((300 : Int) < (l.length : Int)) = false := by simp; omega
    rw [hs]
    obtain ⟨c, hc, hmk⟩ := make26
    have HM := Lib.hid (ShM.start (w := w) hc (Nat.le_refl _))
    have HK := Lib.hid ((Kin.refl w).alloc (.cells c 157))
    generalize hR : shapeG [] true 0 l = R
    have HR := Lib.hid hR
    clear hs hR
    go_enter Tryz.func18, Tryz.ntmps18
    go_wp2_with fail
    have h0 : ShM ((w.alloc (.cells c 157)).alloc (.cells #[.slice (some ⟨w.heap.size, 0, none⟩) 0 26, .bool true] 100)) w.heap.size (w.heap.size + 1) w.heap.size [] true := HM.out
    have k0 : Kin w ((w.alloc (.cells c 157)).alloc (.cells #[.slice (some ⟨w.heap.size, 0, none⟩) 0 26, .bool true] 100)) := HK.out.alloc _
    have HM0 := Lib.hid h0
    have HK0 := Lib.hid k0
    clear h0 k0 HM HK hmk hc
    generalize (w.alloc (.cells c 157)).alloc (.cells #[.slice (some ⟨w.heap.size, 0, none⟩) 0 26, .bool true] 100) = W0 at HM0 HK0 ⊢
    obtain ⟨R1, R2⟩ := R
    go_loopg [15] l.length (fun g x wq => ∃ (k : Nat) (o : List Hold) (heads : Bool) (st : List Opn) (begun : Bool), x = .int .i64 k ∧ k ≤ l.length ∧ g = l.length - k ∧ ShM wq w.heap.size (w.heap.size + 1) w.heap.size o heads ∧ ShI o heads st begun ∧ o.length ≤ 24 ∧ Ap (w.heap.size + 1) w.heap.size W0 wq ∧ shapeG o heads k (l.drop k) = (R1, R2))
    case atStart => exact ⟨0, [], true, [], false, rfl, Nat.zero_le _, rfl, HM0.out, ShI.start, by decide, Ap.refl _, HR.out⟩
    case round =>
      obtain ⟨k, o, heads, st, begun, rfl, hk, hg, hS, hI, ho, hA, hG⟩ := hrel
      have HS := Lib.hid hS
      have HI := Lib.hid hI
      have HA := Lib.hid hA
      have HG := Lib.hid hG
      have HGG := Lib.hid hg
      have HO := Lib.hid ho
      clear hS hI hA hG hg ho
      have kin : ∀ w' : World, Ap (w.heap.size + 1) w.heap.size wr w' → Kin w w' := fun w' h => by
        have a := HA.out.trans h
        have q := HK0.out
        have qs := q.size
        exact ⟨a.os.trans q.os, a.out.trans q.out, Nat.le_trans q.size a.size, fun j hj => (a.block j (by omega) (by omega) (by omega)).trans (q.block j hj)⟩
      have KIN := Lib.hid kin
      clear kin
      by_cases hlk : k < l.length
      · obtain ⟨⟨depth, kind, name, num, op, at_⟩, hu⟩ : ∃ u, l[k]? = some u := ⟨_, List.getElem?_eq_getElem hlk⟩
        obtain ⟨gb, off, rfl, hcell⟩ := HNE.out (by rintro rfl; simp at hlk)
        have cells : ∀ (x : Nat) (v : Value), (Nd.mk depth kind name num op at_).cells[x]? = some v → wr.cell? ⟨gb, off + k * 6 + x, none⟩ = some v := fun x v hv => by
          have := hcell k _ hu x v hv
          have hb := World.block_lt_of_cell? w _ this
          have h2 := HK0.out.cell (n := gb) (o := off + k * 6 + x) hb
          have hbz : gb < w.heap.size := hb
          have hs0 := HK0.out.size
          exact ((HA.out.cell (by omega) (by omega) (by omega)).trans h2).trans this
        have r0 := cells 0 _ rfl
        have r1 := cells 1 _ rfl
        have r2 := cells 2 _ rfl
        have r3 := cells 3 _ rfl
        have r4 := cells 4 _ rfl
        have r5 := cells 5 _ rfl
        simp only [Nat.add_zero] at r0
        have hul := HL.out _ (List.mem_of_getElem? hu)
        have hdrop : l.drop k = ⟨depth, kind, name, num, op, at_⟩ :: l.drop (k + 1) := by
          rw [List.drop_eq_getElem_cons hlk]
          rw [List.getElem?_eq_getElem hlk] at hu
          rw [Option.some.inj hu]
        have HC := Lib.hid hcell
        have HU := Lib.hid hul
        have HDR := Lib.hid hdrop
        clear cells hcell hu hul hdrop
        have hAl : Ap (w.heap.size + 1) w.heap.size wr (wr.alloc (.cells #[.int .i64 depth, .int .i64 kind, .string name, .int .i64 num, .int .i64 op, .int .i64 at_] 50)) := Ap.of_kin ((Kin.refl _).alloc _)
        have hst := stands_any ⟨depth, kind, name, num, op, at_⟩ HU.out.1 _ (HS.out.kin ((Kin.refl wr).alloc (.cells #[.int .i64 depth, .int .i64 kind, .string name, .int .i64 num, .int .i64 op, .int .i64 at_] 50))) HI.out HO.out
        have hsm := stand_same HI.out HO.out ⟨depth, kind, name, num, op, at_⟩ HU.out.2.1 HU.out.2.2
        have hG := HG.out
        rw [HDR.out] at hG
        unfold shapeG at hG
        unfold StandPost at hst
        cases hsf : standF o heads ⟨depth, kind, name, num, op, at_⟩ with
        | none =>
          rw [hsf] at hG hst
          cases hG
          have hst2 : Calls Tryz.prog 51 #[.pointer (some ⟨w.heap.size + 1, 0, none⟩), .agg #[.int .i64 depth, .int .i64 kind, .string name, .int .i64 num, .int .i64 op, .int .i64 at_]] (wr.alloc (.cells #[.int .i64 depth, .int .i64 kind, .string name, .int .i64 num, .int .i64 op, .int .i64 at_] 50)) (fun e w' => e = .returned (.bool false) ∧ Kin w w') := hst.mono fun e w' h => ⟨h.2, KIN.out _ (hAl.trans h.1)⟩
          clear hst hsf hsm hAl
          go_wp2_with (go_at_call 51; refine hst2.mono ?_; rintro e w3 ⟨rfl, hk3⟩)
          go_ret2
          exact ⟨rfl, hk3⟩
        | some p =>
          obtain ⟨o', h'⟩ := p
          rcases hsm with ⟨e1, _⟩ | ⟨o1, h1, st1, b1, e1, _, e3, e4⟩
          · rw [hsf] at e1; cases e1
          rw [hsf] at e1
          cases e1
          rw [hsf] at hG hst
          dsimp only at hG
          have E3 := Lib.hid e3
          have E4 := Lib.hid e4
          have hst2 : Calls Tryz.prog 51 #[.pointer (some ⟨w.heap.size + 1, 0, none⟩), .agg #[.int .i64 depth, .int .i64 kind, .string name, .int .i64 num, .int .i64 op, .int .i64 at_]] (wr.alloc (.cells #[.int .i64 depth, .int .i64 kind, .string name, .int .i64 num, .int .i64 op, .int .i64 at_] 50)) (fun e w' => e = .returned (.bool true) ∧ Ap (w.heap.size + 1) w.heap.size wr w' ∧ ShM w' w.heap.size (w.heap.size + 1) w.heap.size o' h' ∧ w'.cell? ⟨wr.heap.size, 0, none⟩ = some (.int .i64 depth)) := hst.mono fun e w' h => ⟨h.2.1, hAl.trans h.1, h.2.2, by
            have hz := HA.out.size
            have hz0 := HK0.out.size
            have hb := HM0.out.s.lt
            exact (h.1.cell (by simp) (by omega) (by omega)).trans (four_cell wr _ _ _ _ _ _)⟩
          clear hst hsf hAl e3 e4
          by_cases hd24 : 24 < depth
          · rw [if_pos hd24] at hG
            cases hG
            have hdd : decide (24 < depth) = true := by simp [hd24]
            have HD24 := Lib.hid hd24
            clear hd24
            go_wp2_with (go_at_call 51; refine hst2.mono ?_; rintro e w3 ⟨rfl, hA3, hS3, hc3⟩)
            go_ret2
            exact ⟨rfl, KIN.out _ hA3⟩
          · rw [if_neg hd24] at hG
            have hdd : decide (24 < depth) = false := by simp; omega
            have HD24 := Lib.hid hd24
            have HG2 := Lib.hid hG
            clear hd24 hG
            go_wp2_with (go_at_call 51; refine hst2.mono ?_; rintro e w3 ⟨rfl, hA3, hS3, hc3⟩)
            go_roundg (l.length - (k + 1))
            case measure => have := HGG.out; omega
            case rel => exact ⟨k + 1, o', h', _, _, by simp, by omega, rfl, hS3, E4.out, by have := E3.out; have := HD24.out; omega, HA.out.trans hA3, HG2.out⟩
      · have hkl : k = l.length := by omega
        subst hkl
        have hG := HG.out
        rw [List.drop_length] at hG
        unfold shapeG at hG
        have hwt := wanting_any wr HS.out
        cases hw : wantIx o with
        | none =>
          rw [hw] at hG hwt
          cases hG
          have HK1 := Lib.hid (KIN.out _ (Ap.refl _))
          go_wp2_with (go_at_call 52; refine hwt.mono ?_; rintro e w3 ⟨rfl, rfl⟩)
          go_ret2
          exact ⟨rfl, HK1.out⟩
        | some u =>
          rw [hw] at hG hwt
          cases hG
          have hx : decide ((0 : Int) ≤ ixV (some u)) = true := by simp [ixV]
          have HK1 := Lib.hid (KIN.out _ (Ap.refl _))
          go_wp2_with (go_at_call 52; refine hwt.mono ?_; rintro e w3 ⟨rfl, rfl⟩)
          go_ret2
          exact ⟨rfl, HK1.out⟩
end Go.Proofs.YtonmcakdofbjiaaGreatDoor
namespace Go.Proofs.YtonmcakdofbjiaaGreatDoor
open Go.RowKit
instance : DecidableEq Nd := fun a b => decidable_of_iff (a.depth = b.depth ∧ a.kind = b.kind ∧ a.name = b.name ∧ a.num = b.num ∧ a.op = b.op ∧ a.at_ = b.at_) (by cases a; cases b; simp)
set_option maxRecDepth 100000 in
theorem guard50 : Tryz.prog.eqGuardType Tryz.prog.depth 50 = false := by kernel_rfl
theorem held50 : Tryz.prog.stoodInHeld 50 = false := by kernel_rfl
theorem struct50 : Tryz.prog.underlying 50 = some (.struct (Tryz.prog.fieldsOf 50)) := by kernel_rfl
set_option maxRecDepth 100000 in
theorem eq50 (a1 a2 : Int) (a3 : ByteArray) (a4 a5 a6 b1 b2 : Int) (b3 : ByteArray) (b4 b5 b6 : Int) (w : World) : (Op.equalIn 10000 50 (.agg #[.int .i64 a1, .int .i64 a2, .string a3, .int .i64 a4, .int .i64 a5, .int .i64 a6]) (.agg #[.int .i64 b1, .int .i64 b2, .string b3, .int .i64 b4, .int .i64 b5, .int .i64 b6])).run Tryz.prog w = .ok (decide (Nd.mk a1 a2 a3 a4 a5 a6 = Nd.mk b1 b2 b3 b4 b5 b6)) w := by
  rw [show (10000 : Nat) = 9999 + 1 from rfl, run_equalIn_agg w 9999 50 _ _ struct50 held50]
  simp only [Program.fieldsOf, Tryz.underlying50]
  simp [go_sem, Op.eqFields]
  have hx : (a3.toList = b3.toList) ↔ a3 = b3 := by
    constructor
    · intro h
      rw [ByteArray.toList_eq, ByteArray.toList_eq] at h
      obtain ⟨⟨x⟩⟩ := a3
      obtain ⟨⟨y⟩⟩ := b3
      have h' : x = y := h
      rw [h']
    · rintro rfl; rfl
  by_cases h1 : a1 = b1 <;> by_cases h2 : a2 = b2 <;> by_cases h3 : a3 = b3 <;> by_cases h4 : a4 = b4 <;> by_cases h5 : a5 = b5 <;> by_cases h6 : a6 = b6 <;> simp [h1, h2, h3, h4, h5, h6, hx]
theorem NodesAt.at {w : World} {b : Option Addr} {n cap : Nat} {l : List Nd} (h : NodesAt w (.slice b n cap) l) (hl : l ≠ []) : ∃ g off, b = some ⟨g, off, none⟩ ∧ ∀ (j : Nat) (n : Nd), l[j]? = some n → ∀ (k : Nat) (c : Value), n.cells[k]? = some c → w.cell? ⟨g, off + j * 6 + k, none⟩ = some c := by
  obtain ⟨b', cap', h1, h2, h3⟩ := h
  cases h1
  exact h3 hl
set_option maxRecDepth 100000 in
set_option maxHeartbeats 8000000 in
theorem same_any (l1 l2 : List Nd) (hl1 : l1.length ≤ 9223372036854775807) (hl2 : l2.length ≤ 9223372036854775807) (v1 v2 : Value) (w : World) (h1 : NodesAt w v1 l1) (h2 : NodesAt w v2 l2) :
    Calls Tryz.prog 16 #[v1, v2] w fun e w' => e = .returned (.bool (decide (l1 = l2))) ∧ Kin w w' := by
  have HN1 := Lib.hid h1
  have HN2 := Lib.hid h2
  obtain ⟨b1, cap1, rfl, hcap1, hne1⟩ := h1
  obtain ⟨b2, cap2, rfl, hcap2, hne2⟩ := h2
  clear hne1 hne2
  by_cases hlen : l1.length = l2.length
  · have hd : ((l1.length : Int) != (l2.length : Int)) = false := by simp [hlen]
    have HLEN := Lib.hid hlen
    clear hlen
    generalize hR : decide (l1 = l2) = R
    have HR := Lib.hid hR
    clear hR
    go_enter Tryz.func16, Tryz.ntmps16
    go_wp2_with fail
    go_loopg [5] l1.length (fun g x wq => ∃ k : Nat, x = .int .i64 k ∧ k ≤ l1.length ∧ g = l1.length - k ∧ Kin w wq ∧ ∀ j, j < k → l1[j]? = l2[j]?)
    case atStart => exact ⟨0, rfl, Nat.zero_le _, rfl, Kin.refl _, fun j hj => by omega⟩
    case round =>
      obtain ⟨k, rfl, hk, hg, hK, hsame⟩ := hrel
      have HG := Lib.hid hg
      have HK := Lib.hid hK
      have HS := Lib.hid hsame
      clear hg hK hsame
      by_cases hlk : k < l1.length
      · have hlk2 : k < l2.length := by have := HLEN.out; omega
        obtain ⟨⟨a1, a2, a3, a4, a5, a6⟩, hu1⟩ : ∃ u, l1[k]? = some u := ⟨_, List.getElem?_eq_getElem hlk⟩
        obtain ⟨⟨c1, c2, c3, c4, c5, c6⟩, hu2⟩ : ∃ u, l2[k]? = some u := ⟨_, List.getElem?_eq_getElem hlk2⟩
        obtain ⟨g1, off1, rfl, hcell1⟩ := HN1.out.at (by rintro rfl; simp at hlk)
        obtain ⟨g2, off2, rfl, hcell2⟩ := HN2.out.at (by rintro rfl; simp at hlk2)
        have cells1 : ∀ (x : Nat) (v : Value), (Nd.mk a1 a2 a3 a4 a5 a6).cells[x]? = some v → wr.cell? ⟨g1, off1 + k * 6 + x, none⟩ = some v := fun x v hv => by
          have := hcell1 k _ hu1 x v hv
          exact (HK.out.cell (World.block_lt_of_cell? w _ this)).trans this
        have cells2 : ∀ (x : Nat) (v : Value), (Nd.mk c1 c2 c3 c4 c5 c6).cells[x]? = some v → wr.cell? ⟨g2, off2 + k * 6 + x, none⟩ = some v := fun x v hv => by
          have := hcell2 k _ hu2 x v hv
          exact (HK.out.cell (World.block_lt_of_cell? w _ this)).trans this
        have r0 := cells1 0 _ rfl
        have r1 := cells1 1 _ rfl
        have r2 := cells1 2 _ rfl
        have r3 := cells1 3 _ rfl
        have r4 := cells1 4 _ rfl
        have r5 := cells1 5 _ rfl
        have s0 := cells2 0 _ rfl
        have s1 := cells2 1 _ rfl
        have s2 := cells2 2 _ rfl
        have s3 := cells2 3 _ rfl
        have s4 := cells2 4 _ rfl
        have s5 := cells2 5 _ rfl
        simp only [Nat.add_zero] at r0 s0
        have he := eq50 a1 a2 a3 a4 a5 a6 c1 c2 c3 c4 c5 c6
        have hgd := guard50
        have HU1 := Lib.hid hu1
        have HU2 := Lib.hid hu2
        clear cells1 cells2 hcell1 hcell2 hu1 hu2
        by_cases hab : Nd.mk a1 a2 a3 a4 a5 a6 = Nd.mk c1 c2 c3 c4 c5 c6
        · rw [decide_eq_true hab] at he
          have HAB := Lib.hid hab
          clear hab
          go_wp2_with fail
          go_region
          go_wp2_with fail
          go_roundg (l1.length - (k + 1))
          case measure => have := HG.out; omega
          case rel =>
            refine ⟨k + 1, by simp, by omega, rfl, HK.out.drewN _, fun j hj => ?_⟩
            by_cases e : j = k
            · subst e; rw [HU1.out, HU2.out, HAB.out]
            · exact HS.out j (by omega)
        · rw [decide_eq_false hab] at he
          have hRf : R = false := by
            rw [← HR.out, decide_eq_false_iff_not]
            rintro rfl
            have h1 := HU1.out
            rw [HU2.out] at h1
            exact hab (Option.some.inj h1).symm
          subst hRf
          clear hab
          go_wp2_with fail
          go_region
          go_wp2_with fail
          go_ret
          exact ⟨rfl, HK.out.drewN _⟩
      · have hkl : k = l1.length := by omega
        subst hkl
        have hRt : R = true := by
          rw [← HR.out, decide_eq_true_iff]
          apply List.ext_getElem?
          intro j
          by_cases hj : j < l1.length
          · exact HS.out j hj
          · rw [List.getElem?_eq_none (by omega), List.getElem?_eq_none (by have := HLEN.out; omega)]
        subst hRt
        go_wp2_with fail
        go_ret
        exact ⟨rfl, HK.out⟩
  · have hd : ((l1.length : Int) != (l2.length : Int)) = true := by simp; omega
    have hn : decide (l1 = l2) = false := by
      rw [decide_eq_false_iff_not]
      rintro rfl
      exact hlen rfl
    rw [hn]
    clear hlen
    go_enter Tryz.func16, Tryz.ntmps16
    go_wp2_with fail
    go_ret
    exact ⟨rfl, Kin.refl _⟩
end Go.Proofs.YtonmcakdofbjiaaGreatDoor
namespace Go.Proofs.YtonmcakdofbjiaaGreatDoor
open Go.RowKit Go.Bsd
def fixedText : ByteArray := { data := #[120, 32, 58, 61, 32, 49, 32, 45, 32, 50, 59] }
def fixedTree : List Nd := [⟨1, 2, { data := #[120] }, 0, 0, 0⟩, ⟨2, 15, { data := #[] }, 0, 4, 7⟩, ⟨3, 10, { data := #[] }, 1, 0, 5⟩, ⟨3, 10, { data := #[] }, 2, 0, 9⟩]
theorem fixed_bad : (badOf (pieces fixedText)).1 = 0 := by kernel_rfl
theorem fixed_rd : (rd (ctx0 fixedText) 60 .prog 0).map outOfRes = some (.tree fixedTree) := by kernel_rfl
theorem fixed_parses : ParsesTo fixedText (.tree fixedTree) := by
  unfold ParsesTo
  rw [if_neg (by decide), if_neg (by rw [fixed_bad]; simp)]
  obtain ⟨r, h1, h2⟩ := Option.map_eq_some_iff.1 fixed_rd
  exact ⟨60, r, h1, h2.symm⟩
theorem fixed_shape : shapeF fixedTree = (0, 0) := by kernel_rfl
theorem fixed_shape3 : shapeF (fixedTree.take 3) = (33, 3) := by kernel_rfl
theorem NodesAt.of_owns {w : World} {base : Nat} {v : Value} {l : List Nd} (h : w.ownsRow base 50 6 v l.length (ndCells l)) : NodesAt w v l := by
  have h0 := h
  rcases h.2 with ⟨rfl, hn⟩ | ⟨g, cap, cur, rfl, hb, hg, hc, _, _, _⟩
  · refine ⟨none, 0, by rw [hn], by omega, fun hl => absurd (List.eq_nil_of_length_eq_zero hn) hl⟩
  · refine ⟨_, cap, rfl, hc, fun _ => ⟨g, 0, rfl, fun j n hj k c hk => ?_⟩⟩
    have hk6 : k < 6 := by have := (List.getElem?_eq_some_iff.1 hk).1; simpa [Nd.cells] using this
    have := h0.cells rfl (j * 6 + k) c ((nd_get hj k hk6).trans hk)
    rw [show ((⟨g, 0, none⟩ : Addr).add (j * 6 + k)) = ⟨g, j * 6 + k, none⟩ from by unfold Addr.add; split <;> simp_all] at this
    rw [show 0 + j * 6 + k = j * 6 + k from by omega]
    exact this
theorem NodesAt.of_block {w : World} {g : Nat} {cur : Array Value} {l : List Nd} {n cap : Nat} (hg : w.heap[g]? = some (.cells cur 50 (0, 0))) (hc : cur.toList.take (l.length * 6) = ndCells l) (hn : n = l.length) (hcap : l.length ≤ cap) : NodesAt w (.slice (some ⟨g, 0, none⟩) n cap) l := by
  refine ⟨_, cap, by rw [hn], hcap, fun _ => ⟨g, 0, rfl, fun j n hj k c hk => ?_⟩⟩
  have hk6 : k < 6 := by have := (List.getElem?_eq_some_iff.1 hk).1; simpa [Nd.cells] using this
  have hjl := (List.getElem?_eq_some_iff.1 hj).1
  have h2 := (nd_get hj k hk6).trans hk
  rw [← hc, List.getElem?_take, if_pos (by omega)] at h2
  rw [show 0 + j * 6 + k = j * 6 + k from by omega]
  unfold World.cell?
  simp [hg]
  simpa using h2
def TrueP (w : World) : Ending → World → Prop
  | .returned v, w' => v = .bool true ∧ Kin w w'
  | _, _ => False
end Go.Proofs.YtonmcakdofbjiaaGreatDoor
namespace Go.Proofs.YtonmcakdofbjiaaGreatDoor
open Go.RowKit Go.Bsd
noncomputable def fx0 : Code := (Tryz.f13.body.getD .skip)
noncomputable def fx1 : Code := seqL (seqR fx0)
noncomputable def fx2 : Code := seqR (seqR fx0)
theorem fx0_is : fx0 = .seq (seqL fx0) (.seq fx1 fx2) := rfl
theorem fx1_is : ∃ id, fx1 = .region id (regOps fx1) false := ⟨_, rfl⟩
def fixCells : Array Value := #[.int .i64 1, .int .i64 2, .string { data := #[120] }, .int .i64 0, .int .i64 0, .int .i64 0, .int .i64 2, .int .i64 15, .string { data := #[] }, .int .i64 0, .int .i64 4, .int .i64 7, .int .i64 3, .int .i64 10, .string { data := #[] }, .int .i64 1, .int .i64 0, .int .i64 5, .int .i64 3, .int .i64 10, .string { data := #[] }, .int .i64 2, .int .i64 0, .int .i64 9]
theorem fixed_lim : ∀ n ∈ fixedTree, n.name.size ≤ 140737488355328 ∧ -9223372036854775808 ≤ n.depth ∧ n.depth ≤ 9223372036854775807 := by
  intro n hn
  simp only [fixedTree, List.mem_cons, List.not_mem_nil, or_false] at hn
  rcases hn with rfl | rfl | rfl | rfl <;> exact ⟨by decide, by decide, by decide⟩
set_option maxRecDepth 100000 in
set_option maxHeartbeats 4000000 in
theorem fixed_tail (w w1 : World) (kw : Kin w w1) (sl : Value) (hN : NodesAt w1 sl fixedTree) (T : Nat → Question → Nat) (d : Nat) (t8 t9 : Value) :
    fx2.wp Tryz.prog (bodyPost Tryz.prog Tryz.f13 (TrueP w)) { tmps := #[.bool false, sl, .nilIface, undef, undef, undef, undef, undef, t8, t9, sl, .nilIface, undef, undef, undef, undef, undef, undef, undef, undef, undef, undef, undef, undef, undef, undef, undef, undef, undef, undef, undef, undef, undef, undef, undef, undef, undef, undef, undef, undef, undef, undef, undef, undef, undef, undef, undef, undef, undef, undef], defers := [] } (re w1 T d) := by
  have k1 : Kin w1 (re w1 T d) := ⟨rfl, rfl, Nat.le_refl _, fun _ _ => rfl⟩
  have k2 : Kin w1 ((re w1 T d).alloc (.cells fixCells 50)) := k1.alloc _
  have hb : ((re w1 T d).alloc (.cells fixCells 50)).heap[w1.heap.size]? = some (.cells fixCells 50 (0, 0)) := by
    have := heap_alloc_new (re w1 T d) (.cells fixCells 50)
    simpa using this
  have n1 := hN.kin k2
  have n2 : NodesAt ((re w1 T d).alloc (.cells fixCells 50)) (.slice (some ⟨w1.heap.size, 0, none⟩) 4 4) fixedTree := NodesAt.of_block hb rfl rfl (by decide)
  have n3 : NodesAt ((re w1 T d).alloc (.cells fixCells 50)) (.slice (some ⟨w1.heap.size, 0, none⟩) 3 4) (fixedTree.take 3) := NodesAt.of_block hb rfl rfl (by decide)
  have HS := Lib.hid (same_any fixedTree fixedTree (by decide) (by decide) _ _ _ n1 n2)
  have HSh := Lib.hid (fun w' (k : Kin _ w') => shape_any fixedTree fixed_lim (by decide) _ w' (n2.kin k))
  have HSh3 := Lib.hid (fun w' (k : Kin _ w') => shape_any (fixedTree.take 3) (fun n hn => fixed_lim n (List.mem_of_mem_take hn)) (by decide) _ w' (n3.kin k))
  rw [fixed_shape] at HSh
  rw [fixed_shape3] at HSh3
  rw [decide_eq_true rfl] at HS
  have KW := Lib.hid (kw.trans k2)
  clear hN n1 n2 n3 k1 k2 hb
  obtain ⟨W2, hW2⟩ : ∃ W2, W2 = (re w1 T d).alloc (.cells fixCells 50) := ⟨_, rfl⟩
  rw [← hW2] at HSh HSh3 KW
  have HS2 : Hid (Calls Tryz.prog 16 #[sl, .slice (some ⟨w1.heap.size, 0, none⟩) 4 4] ((re w1 T d).alloc (.cells fixCells 50)) fun e w' => e = .returned (.bool true) ∧ Hid (Kin W2 w')) := Lib.hid (HS.out.mono fun e w' h => ⟨h.1, Lib.hid (by rw [hW2]; exact h.2)⟩)
  unfold fixCells at HS2
  clear HS hW2
  have hsl : ∀ u, (Instr.sliceAt 25 (.slice (some ⟨w1.heap.size, 0, none⟩) 4 4) none (some (.int .i64 3)) none).run Tryz.prog u = .ok (.slice (some ⟨w1.heap.size, 0, none⟩) 3 4) u := fun u => by
    obtain ⟨k, hk⟩ : ∃ k, ∀ w, (sizeOf (Tryz.prog.elem 25)).run Tryz.prog w = .ok k w := ⟨6, fun w => by kernel_rfl⟩
    rw [run_sliceAt_slice _ _ _ _ _ _ (by kernel_rfl), run_slice_h _ _ _ _ _ (by kernel_rfl) _ _ (by decide) (by decide), hk]
    simp [Result.andThen, sliced, Addr.add]
  generalize hB : bodyPost Tryz.prog Tryz.f13 (TrueP w) = B
  have HB := Lib.hid hB
  clear hB
  simp only [fx2, fx0, seqR, Tryz.f13, Option.getD_some]
  go_wp2_with (go_at_call 16; refine HS2.out.mono ?_; rintro e w3 ⟨rfl, hk3⟩)
  have h18 := Lib.hid (HSh.out _ hk3.out)
  refine h18.out.mono ?_
  rintro e w4 ⟨rfl, hk4'⟩
  have hk4 := Lib.hid hk4'
  clear hk4' h18
  dsimp only
  go_wp2_with fail
  have h18 := Lib.hid (HSh3.out _ (hk3.out.trans hk4.out))
  refine h18.out.mono ?_
  rintro e w5 ⟨rfl, hk5'⟩
  have hk5 := Lib.hid hk5'
  clear hk5' h18 HSh3 HSh hsl
  dsimp only
  go_wp2_with fail
  rw [← HB.out]
  go_ret
  exact ⟨rfl, KW.out.trans (hk3.out.trans (hk4.out.trans hk5.out))⟩
end Go.Proofs.YtonmcakdofbjiaaGreatDoor
namespace Go.Proofs.YtonmcakdofbjiaaGreatDoor
open Go.RowKit Go.Bsd
set_option maxRecDepth 100000 in
set_option maxHeartbeats 4000000 in
theorem fixed_any (hP : TameProg Tryz.prog) (te : TypeId) (pe : Value) (w : World) (hv : VarsOk w) (ce : w.cell? ⟨0, 0, none⟩ = some (.iface te pe)) : CallsB Tryz.prog 13 #[] w (TrueP w) := by
  have hR : ∀ w', ¬ TrueP w .outgrown w' := fun w' h => h
  refine callsB_of_wpB hP Tryz.func13 (c := fx0) rfl hR ?_
  rw [fx0_is]
  have ha : (#[] ++ Array.replicate (Tryz.f13.ntmps - (#[] : Array Value).size) undef) = #[undef, undef, undef, undef, undef, undef, undef, undef, undef, undef, undef, undef, undef, undef, undef, undef, undef, undef, undef, undef, undef, undef, undef, undef, undef, undef, undef, undef, undef, undef, undef, undef, undef, undef, undef, undef, undef, undef, undef, undef, undef, undef, undef, undef, undef, undef, undef, undef, undef, undef] := by
    simp only [Tryz.ntmps13]
    simp [Array.replicate_succ]
  rw [ha]
  clear ha
  refine wpB_seq_lone hP fun T d => ?_
  generalize hB : bodyPost Tryz.prog Tryz.f13 (TrueP w) = B
  have HB := Lib.hid hB
  clear hB
  generalize hY : (Code.seq fx1 fx2) = Y
  have HP := Lib.hid (parse_any hP fixedText (by decide) te pe w hv ce _ fixed_parses)
  clear hv ce
  simp only [seqL, fx0, Tryz.f13, Option.getD_some]
  go_wp2
  subst hY
  refine wpB_tape ?_
  refine wpB_seq hP ?_
  obtain ⟨id, hid⟩ := fx1_is
  rw [hid]
  clear hid
  generalize hX : fx2 = X
  simp only [fx1, fx0, seqL, seqR, regOps, Tryz.f13, Option.getD_some]
  subst hX
  refine wpB_region hP (l := [_, _, _, _, _, _]) ?_
  refine listB_fn hP Tryz.func14 (by kernel_rfl) (by kernel_rfl) rfl rfl (args := #[.string fixedText]) (by simp [Act.eval, evalT, fixedText]) (HP.out.mono ?_)
  rintro e w1 hpost
  cases e with
  | outgrown => exact hpost.elim
  | panicked _ => exact hpost.elim
  | returned v =>
    obtain ⟨kin, sl, rfl, hown⟩ := hpost
    have hn := NodesAt.of_owns hown
    have HT : Hid (∀ t8 t9, wpB Tryz.prog fx2 B { tmps := #[.bool false, sl, .nilIface, undef, undef, undef, undef, undef, t8, t9, sl, .nilIface, undef, undef, undef, undef, undef, undef, undef, undef, undef, undef, undef, undef, undef, undef, undef, undef, undef, undef, undef, undef, undef, undef, undef, undef, undef, undef, undef, undef, undef, undef, undef, undef, undef, undef, undef, undef, undef, undef], defers := [] } w1) := Lib.hid (fun t8 t9 => by
      rw [← HB.out]
      exact wpB_lift hP fun T d => fixed_tail w w1 kin sl hn T d t8 t9)
    clear hn hown kin HB HP
    generalize hX : fx2 = X at HT ⊢
    clear hX
    show listB Tryz.prog _ _ _ _ w1
    generalize hN : Exit.then (wpB Tryz.prog X B) B = N
    refine listB_lift hP fun T d => ?_
    go_wp2
    subst hN
    exact HT.out _ _
end Go.Proofs.YtonmcakdofbjiaaGreatDoor
namespace Go.Proofs.YtonmcakdofbjiaaGreatDoor
open Go.RowKit Go.Extern.Stop Go.Stop Go.Extern
noncomputable def compM : Array Value → Sem Value := ((Extern.ReflectliteType.rows[2]?).map (fun x => x.2)).getD (fun _ => pure (.bool false))
theorem isTypeOf (v : Value) (w : World) : (Extern.ReflectliteType.typeOf #[.iface 253 v]).run Tryz.prog w = .ok (.iface 163 (.agg #[.pointer (some ⟨10, 253, none⟩)])) w := by kernel_rfl
theorem isComparable (w : World) : (compM #[.agg #[.pointer (some ⟨10, 253, none⟩)]]).run Tryz.prog w = .ok (.bool true) w := by kernel_rfl
theorem isMethodComparable (v : Value) (w : World) : (Go.method 382 163 v "Comparable").run Tryz.prog w = .ok (217, v) w := by kernel_rfl
theorem isComp : (Tryz.prog.info? 253).map (·.comparable) = some true := by kernel_rfl
theorem isSize : (Tryz.prog.info? 255).map (·.size) = some 1 := by kernel_rfl
theorem noIsF (v : Value) (xT : TypeId) (w : World) : (Instr.typeAssert (.iface 71 v) xT 165 true).run Tryz.prog w = .ok (.tuple #[.nilIface, .bool false]) w := run_typeAssert_lacksB Tryz.underlying165 (by kernel_rfl) (by kernel_rfl) v xT w
theorem noUnwrapF (v : Value) (xT : TypeId) (w : World) : (Instr.typeAssert (.iface 71 v) xT 168 true).run Tryz.prog w = .ok (.tuple #[.nilIface, .bool false]) w := run_typeAssert_lacksB Tryz.underlying168 (by kernel_rfl) (by kernel_rfl) v xT w
theorem hasUnwrapF (v : Value) (xT : TypeId) (w : World) : (Instr.typeAssert (.iface 71 v) xT 170 true).run Tryz.prog w = .ok (.tuple #[.iface 71 v, .bool true]) w := run_typeAssert_hasB Tryz.underlying170 (by kernel_rfl) v xT w
theorem methodUnwrap (v : Value) (w : World) : (Go.method 382 71 v "Unwrap").run Tryz.prog w = .ok (214, v) w := by kernel_rfl
theorem noIsE (v : Value) (xT : TypeId) (w : World) : (Instr.typeAssert (.iface 253 v) xT 165 true).run Tryz.prog w = .ok (.tuple #[.nilIface, .bool false]) w := run_typeAssert_lacksB Tryz.underlying165 (by kernel_rfl) (by kernel_rfl) v xT w
theorem noUnwrapE (v : Value) (xT : TypeId) (w : World) : (Instr.typeAssert (.iface 253 v) xT 168 true).run Tryz.prog w = .ok (.tuple #[.nilIface, .bool false]) w := run_typeAssert_lacksB Tryz.underlying168 (by kernel_rfl) (by kernel_rfl) v xT w
theorem noUnwrapsE (v : Value) (xT : TypeId) (w : World) : (Instr.typeAssert (.iface 253 v) xT 170 true).run Tryz.prog w = .ok (.tuple #[.nilIface, .bool false]) w := run_typeAssert_lacksB Tryz.underlying170 (by kernel_rfl) (by kernel_rfl) v xT w
theorem noIsC (v : Value) (xT : TypeId) (w : World) : (Instr.typeAssert (.iface 30 v) xT 165 true).run Tryz.prog w = .ok (.tuple #[.nilIface, .bool false]) w := run_typeAssert_lacksB Tryz.underlying165 (by kernel_rfl) (by kernel_rfl) v xT w
theorem noUnwrapC (v : Value) (xT : TypeId) (w : World) : (Instr.typeAssert (.iface 30 v) xT 168 true).run Tryz.prog w = .ok (.tuple #[.nilIface, .bool false]) w := run_typeAssert_lacksB Tryz.underlying168 (by kernel_rfl) (by kernel_rfl) v xT w
theorem noUnwrapsC (v : Value) (xT : TypeId) (w : World) : (Instr.typeAssert (.iface 30 v) xT 170 true).run Tryz.prog w = .ok (.tuple #[.nilIface, .bool false]) w := run_typeAssert_lacksB Tryz.underlying170 (by kernel_rfl) (by kernel_rfl) v xT w
set_option maxRecDepth 100000 in
set_option maxHeartbeats 4000000 in
theorem is_e_same (b : Addr) (w : World) : Calls Tryz.prog 59 #[.iface 253 (.pointer (some b)), .iface 253 (.pointer (some b)), .bool true] w fun e w' => e = .returned (.bool true) ∧ w' = w := by
  obtain ⟨i, hi, hcmp⟩ := Option.map_eq_some_iff.1 isComp
  obtain ⟨j, hj, hjs⟩ := Option.map_eq_some_iff.1 isSize
  have heq := run_eql_iface_ptr_same (P := Tryz.prog) w b Tryz.underlying27 Tryz.underlying253 hi hcmp hj
  go_enter Tryz.func59, Tryz.ntmps59
  go_wp2
  refine wp_loop_rounds 1 ?_
  rw [rounds_succ]
  go_wp2
  go_ret
  exact ⟨rfl, rfl⟩
set_option maxRecDepth 100000 in
set_option maxHeartbeats 4000000 in
theorem is_e_other (a b : Addr) (ca cb : Array Value) (ta tb : TypeId) (w : World) (hne : a ≠ b) (ha : w.heap[a.block]? = some (.cells ca ta (0, 0))) (hb : w.heap[b.block]? = some (.cells cb tb (0, 0))) : Calls Tryz.prog 59 #[.iface 253 (.pointer (some a)), .iface 253 (.pointer (some b)), .bool true] w fun e w' => e = .returned (.bool false) ∧ w' = w := by
  obtain ⟨i, hi, hcmp⟩ := Option.map_eq_some_iff.1 isComp
  obtain ⟨j, hj, hjs⟩ := Option.map_eq_some_iff.1 isSize
  have nE := noIsE
  have uE := noUnwrapE
  have vE := noUnwrapsE
  have heq := run_eql_iface_ptr_other (P := Tryz.prog) w Tryz.underlying27 Tryz.underlying253 hi hcmp hj (by rw [hjs]; decide) hne ha hb
  go_enter Tryz.func59, Tryz.ntmps59
  go_wp2
  refine wp_loop_rounds 1 ?_
  rw [rounds_succ]
  go_wp2
  go_ret
  exact ⟨rfl, rfl⟩
set_option maxRecDepth 100000 in
set_option maxHeartbeats 4000000 in
theorem is_code (v : Value) (y : Value) (w : World) : Calls Tryz.prog 59 #[.iface 30 v, .iface 253 y, .bool true] w fun e w' => e = .returned (.bool false) ∧ w' = w := by
  have nE := noIsC
  have uE := noUnwrapC
  have vE := noUnwrapsC
  have hty := run_eql_iface_types (P := Tryz.prog) 30 253 v y Tryz.underlying27 (by decide) w
  go_enter Tryz.func59, Tryz.ntmps59
  go_wp2
  refine wp_loop_rounds 1 ?_
  rw [rounds_succ]
  go_wp2
  go_ret
  exact ⟨rfl, rfl⟩
set_option maxRecDepth 100000 in
set_option maxHeartbeats 4000000 in
theorem unwrap_any (q : Nat) (k : Int) (y : Value) (w : World) (h0 : w.cell? ⟨q, 0, none⟩ = some (.int .i64 k)) (h2 : w.cell? ⟨q, 2, none⟩ = some (.iface 253 y)) :
    Calls Tryz.prog 214 #[.pointer (some ⟨q, 0, none⟩)] w fun e w' => ∃ n, e = .returned (.slice (some ⟨n, 0, none⟩) 2 2) ∧ Kin w w' ∧ w'.cell? ⟨n, 0, none⟩ = some (.iface 253 y) ∧ w'.cell? ⟨n, 1, none⟩ = some (.iface 30 (.int .i64 k)) := by
  go_enter Tryz.func214, Tryz.ntmps214
  go_wp2
  go_region
  go_wp2
  go_ret
  have k1 : Kin w ((w.alloc (.cells #[.iface 253 y, .iface 30 (.int .i64 k)] 27)).drew) := ((Kin.refl w).alloc (.cells #[.iface 253 y, .iface 30 (.int .i64 k)] 27)).drewN 1
  exact ⟨w.heap.size, rfl, k1, by show (w.alloc _).cell? _ = _; simp [go_sem], by show (w.alloc _).cell? _ = _; simp [go_sem]⟩
set_option maxRecDepth 100000 in
set_option maxHeartbeats 4000000 in
theorem is_in_true (q : Nat) (k : Int) (y b : Value) (w : World) (h0 : w.cell? ⟨q, 0, none⟩ = some (.int .i64 k)) (h2 : w.cell? ⟨q, 2, none⟩ = some (.iface 253 y))
    (hin : ∀ w', Kin w w' → Calls Tryz.prog 59 #[.iface 253 y, .iface 253 b, .bool true] w' fun e w'' => e = .returned (.bool true) ∧ w'' = w') :
    Calls Tryz.prog 59 #[.iface 71 (.pointer (some ⟨q, 0, none⟩)), .iface 253 b, .bool true] w fun e w' => e = .returned (.bool true) ∧ Kin w w' := by
  have nE := noIsF
  have uE := noUnwrapF
  have vE := hasUnwrapF
  have mU := methodUnwrap
  have hty := run_eql_iface_types (P := Tryz.prog) 71 253 (.pointer (some ⟨q, 0, none⟩)) b Tryz.underlying27 (by decide)
  have hU := unwrap_any q k y w h0 h2
  go_enter Tryz.func59, Tryz.ntmps59
  go_wp2
  refine wp_loop_rounds 1 ?_
  rw [rounds_succ]
  go_wp2_with (go_at_call 214; refine hU.mono ?_; rintro e w3 ⟨n, rfl, hk, hc0, hc1⟩)
  have HIN := Lib.hid (hin w3 hk)
  refine wp_loop_rounds 1 ?_
  rw [rounds_succ]
  go_wp2_with (go_at_call 59; refine HIN.out.mono ?_; rintro e w4 ⟨rfl, rfl⟩)
  go_ret
  exact ⟨rfl, hk⟩
set_option maxRecDepth 100000 in
set_option maxHeartbeats 4000000 in
theorem is_in_false (q : Nat) (k : Int) (y b : Value) (w : World) (h0 : w.cell? ⟨q, 0, none⟩ = some (.int .i64 k)) (h2 : w.cell? ⟨q, 2, none⟩ = some (.iface 253 y))
    (hin : ∀ w', Kin w w' → Calls Tryz.prog 59 #[.iface 253 y, .iface 253 b, .bool true] w' fun e w'' => e = .returned (.bool false) ∧ w'' = w') :
    Calls Tryz.prog 59 #[.iface 71 (.pointer (some ⟨q, 0, none⟩)), .iface 253 b, .bool true] w fun e w' => e = .returned (.bool false) ∧ Kin w w' := by
  have nE := noIsF
  have uE := noUnwrapF
  have vE := hasUnwrapF
  have mU := methodUnwrap
  have hty := run_eql_iface_types (P := Tryz.prog) 71 253 (.pointer (some ⟨q, 0, none⟩)) b Tryz.underlying27 (by decide)
  have hU := unwrap_any q k y w h0 h2
  go_enter Tryz.func59, Tryz.ntmps59
  go_wp2
  refine wp_loop_rounds 1 ?_
  rw [rounds_succ]
  go_wp2_with (go_at_call 214; refine hU.mono ?_; rintro e w3 ⟨n, rfl, hk, hc0, hc1⟩)
  have HIN := Lib.hid (hin w3 hk)
  have HC := Lib.hid (is_code (.int .i64 k) b w3)
  refine wp_loop_rounds 3 ?_
  rw [rounds_succ]
  go_wp2_with (go_at_call 59; refine HIN.out.mono ?_; rintro e w4 ⟨rfl, rfl⟩)
  rw [rounds_succ]
  go_wp2_with (go_at_call 59; refine HC.out.mono ?_; rintro e w4 ⟨rfl, rfl⟩)
  rw [rounds_succ]
  go_wp2_with fail
  go_ret
  exact ⟨rfl, hk⟩
set_option maxRecDepth 100000 in
set_option maxHeartbeats 4000000 in
theorem is_fault (q : Nat) (b : Addr) (r : Bool) (w : World)
    (hin : Calls Tryz.prog 59 #[.iface 71 (.pointer (some ⟨q, 0, none⟩)), .iface 253 (.pointer (some b)), .bool true] w fun e w' => e = .returned (.bool r) ∧ Kin w w') :
    Calls Tryz.prog 21 #[.iface 71 (.pointer (some ⟨q, 0, none⟩)), .iface 253 (.pointer (some b))] w fun e w' => e = .returned (.bool r) ∧ Kin w w' := by
  have h8 := @run_callFunc_extern Tryz.prog 58 _ Extern.ReflectliteType.typeOf Tryz.func58 (by kernel_rfl) (by kernel_rfl) (by kernel_rfl) (by kernel_rfl)
  have h32 := @run_callFunc_extern Tryz.prog 217 _ compM Tryz.func217 (by kernel_rfl) (by kernel_rfl) (by kernel_rfl) (by kernel_rfl)
  have tT := isTypeOf
  have cT := isComparable
  have mR := isMethodComparable
  have HIN := Lib.hid hin
  clear hin
  go_enter Tryz.func21, Tryz.ntmps21
  go_wp2_with (go_at_call 59; refine HIN.out.mono ?_; rintro e w4 ⟨rfl, hk⟩)
  go_ret
  exact ⟨rfl, hk⟩
theorem is_yes (q : Nat) (k : Int) (b : Addr) (w : World) (h0 : w.cell? ⟨q, 0, none⟩ = some (.int .i64 k)) (h2 : w.cell? ⟨q, 2, none⟩ = some (.iface 253 (.pointer (some b)))) :
    Calls Tryz.prog 21 #[.iface 71 (.pointer (some ⟨q, 0, none⟩)), .iface 253 (.pointer (some b))] w fun e w' => e = .returned (.bool true) ∧ Kin w w' :=
  is_fault q b true w (is_in_true q k _ _ w h0 h2 fun w' _ => is_e_same b w')
theorem is_no (q : Nat) (k : Int) (a b : Addr) (ca cb : Array Value) (ta tb : TypeId) (w : World) (h0 : w.cell? ⟨q, 0, none⟩ = some (.int .i64 k)) (h2 : w.cell? ⟨q, 2, none⟩ = some (.iface 253 (.pointer (some a))))
    (hne : a ≠ b) (ha : w.heap[a.block]? = some (.cells ca ta (0, 0))) (hb : w.heap[b.block]? = some (.cells cb tb (0, 0))) :
    Calls Tryz.prog 21 #[.iface 71 (.pointer (some ⟨q, 0, none⟩)), .iface 253 (.pointer (some b))] w fun e w' => e = .returned (.bool false) ∧ Kin w w' :=
  is_fault q b false w (is_in_false q k _ _ w h0 h2 fun w' hk => is_e_other a b ca cb ta tb w' hne ((hk.block _ (Array.getElem?_eq_some_iff.1 ha).1).trans ha) ((hk.block _ (Array.getElem?_eq_some_iff.1 hb).1).trans hb))
end Go.Proofs.YtonmcakdofbjiaaGreatDoor
namespace Go.Proofs.YtonmcakdofbjiaaGreatDoor
open Go.RowKit Go.Bsd
noncomputable def wr0 : Code := (Tryz.f5.body.getD .skip)
noncomputable def wr1 : Code := seqL (seqR wr0)
noncomputable def wr2 : Code := seqL (seqR (seqR wr0))
noncomputable def wr3 : Code := seqL (seqR (seqR (seqR wr0)))
noncomputable def wr5 : Code := seqL (seqR (seqR (seqR (seqR wr0))))
noncomputable def wrR : Code := seqR (seqR (seqR (seqR (seqR wr0))))
theorem wr0_is : wr0 = .seq (seqL wr0) (.seq wr1 (.seq wr2 (.seq wr3 (.seq wr5 wrR)))) := rfl
theorem wr1_is : ∃ id, wr1 = .region id (regOps wr1) false := ⟨_, rfl⟩
theorem wr2_is : ∃ id, wr2 = .region id (regOps wr2) false := ⟨_, rfl⟩
theorem wr5_is : ∃ id, wr5 = .region id (regOps wr5) false := ⟨_, rfl⟩
theorem wrR_is : wrR = .ret := rfl
structure Sent (w : World) (b b2 : Addr) : Prop where
  rej : w.cell? ⟨0, 0, none⟩ = some (.iface 253 (.pointer (some b)))
  conf : w.cell? ⟨1, 0, none⟩ = some (.iface 253 (.pointer (some b2)))
  ne : b ≠ b2
  mb : ∃ c t, w.heap[b.block]? = some (.cells c t (0, 0))
  mb2 : ∃ c t, w.heap[b2.block]? = some (.cells c t (0, 0))
theorem Sent.kin {w w' : World} {b b2 : Addr} (h : Sent w b b2) (k : Kin w w') : Sent w' b b2 := by
  obtain ⟨h1, h2, h3, ⟨c, t, h4⟩, ⟨c2, t2, h5⟩⟩ := h
  exact ⟨(k.cell (World.block_lt_of_cell? w _ h1)).trans h1, (k.cell (World.block_lt_of_cell? w _ h2)).trans h2, h3, ⟨c, t, (k.block _ (Array.getElem?_eq_some_iff.1 h4).1).trans h4⟩, ⟨c2, t2, (k.block _ (Array.getElem?_eq_some_iff.1 h5).1).trans h5⟩⟩
theorem kin_re (w : World) (T : Nat → Question → Nat) (d : Nat) : Kin w (re w T d) := ⟨rfl, rfl, Nat.le_refl _, fun _ _ => rfl⟩
def FaultAt (w : World) (q : Nat) (b : Addr) : Prop := ∃ k : Int, w.cell? ⟨q, 0, none⟩ = some (.int .i64 k) ∧ w.cell? ⟨q, 2, none⟩ = some (.iface 253 (.pointer (some b)))
theorem FaultAt.kin {w w' : World} {q : Nat} {b : Addr} (h : FaultAt w q b) (k : Kin w w') : FaultAt w' q b := by
  obtain ⟨x, h1, h2⟩ := h
  exact ⟨x, (k.cell (World.block_lt_of_cell? w _ h1)).trans h1, (k.cell (World.block_lt_of_cell? w _ h2)).trans h2⟩
set_option maxRecDepth 100000 in
set_option maxHeartbeats 500000 in
theorem wraps_end (hP : TameProg Tryz.prog) (w w2 : World) (kw : Kin w w2) (hv : VarsOk w2) (b b2 : Addr) (hs : Sent w2 b b2) (q : Nat) (hq : FaultAt w2 q b) (s0 t3 t4 t5 t7 t8 t9 t10 t11 t12 t13 t14 t15 t16 t17 t18 t19 t20 t21 t22 t23 t24 t25 t26 t27 t28 t29 t30 : Value) :
    wpB Tryz.prog (.seq wr5 wrR) (bodyPost Tryz.prog Tryz.f5 (TrueP w)) { tmps := #[s0, undef, .bool false, t3, t4, t5, .iface 71 (.pointer (some ⟨q, 0, none⟩)), t7, t8, t9, t10, t11, t12, t13, t14, t15, t16, t17, t18, t19, t20, t21, t22, t23, t24, t25, t26, t27, t28, t29, t30, undef, undef, undef, undef, undef, undef, undef, undef, undef, undef], defers := [] } w2 := by
  have HP : Hid (∀ w3, Kin w2 w3 → CallsB Tryz.prog 13 #[] w3 (TrueP w3)) := Lib.hid (fun w3 k => fixed_any hP 253 _ w3 (hv.kin k) (hs.kin k).rej)
  have c0 := hs.rej
  have KW := Lib.hid kw
  have hin : Hid (∀ T d, Calls Tryz.prog 21 #[.iface 71 (.pointer (some ⟨q, 0, none⟩)), .iface 253 (.pointer (some b))] (re w2 T d) fun e w' => e = .returned (.bool true) ∧ Hid (Kin w2 w')) := Lib.hid (fun T d => by
    obtain ⟨k, h1, h2⟩ := hq
    exact (is_yes q k b (re w2 T d) h1 h2).mono fun e w' h => ⟨h.1, Lib.hid ((kin_re w2 T d).trans h.2)⟩)
  clear hv hs hq kw
  refine wpB_seq hP ?_
  obtain ⟨id, hid⟩ := wr5_is
  rw [hid]
  clear hid
  generalize hB : bodyPost Tryz.prog Tryz.f5 (TrueP w) = B
  have HB := Lib.hid hB
  clear hB
  generalize hX : wrR = X
  have HX := Lib.hid hX
  clear hX
  simp only [wr5, wr0, seqL, seqR, regOps, Tryz.f5, Option.getD_some]
  refine wpB_region hP (l := [_, _, _, _, _, _, _, _, _, _, _]) ?_
  refine listB_cut hP [_, _, _, _, _, _, _, _] [_, _, _] fun T d => ?_
  have c0' : (re w2 T d).cell? ⟨0, 0, none⟩ = some (.iface 253 (.pointer (some b))) := c0
  generalize hN : listB Tryz.prog _ _ _ = N
  have HN := Lib.hid hN
  clear hN
  go_wp2_with (go_at_call 21; refine (hin.out T d).mono ?_; rintro e w3 ⟨rfl, hk3⟩)
  rw [← HN.out]
  refine listB_fn hP Tryz.func13 (by kernel_rfl) (by kernel_rfl) rfl rfl (args := #[]) (by simp) ((HP.out w3 hk3.out).mono ?_)
  rintro e w4 hpost
  cases e with
  | outgrown => exact hpost.elim
  | panicked _ => exact hpost.elim
  | returned v =>
    obtain ⟨rfl, k4'⟩ := hpost
    have k4 := Lib.hid (KW.out.trans (hk3.out.trans k4'))
    clear k4'
    show listB Tryz.prog _ _ _ _ w4
    clear HN
    generalize hM : Exit.then (wpB Tryz.prog X B) B = M
    have HM := Lib.hid hM
    clear hM
    refine listB_lift hP fun T d => ?_
    go_wp2
    rw [← HM.out]
    show wpB Tryz.prog X B _ _
    rw [← HX.out, wrR_is, ← HB.out]
    refine wpB_tape ?_
    refine wpB_lift hP fun T d => ?_
    go_wp2
    go_ret
    exact ⟨rfl, k4.out.trans (kin_re _ _ _)⟩
set_option maxRecDepth 100000 in
set_option maxHeartbeats 500000 in
theorem wraps_nil (hP : TameProg Tryz.prog) (w w2 : World) (kw : Kin w w2) (hv : VarsOk w2) (b b2 : Addr) (hs : Sent w2 b b2) (q : Nat) (hq : FaultAt w2 q b) (s : ByteArray) (t3 t5 t7 t8 t9 t10 t11 t12 t13 t14 t15 t16 t17 : Value) :
    wpB Tryz.prog (.seq wr3 (.seq wr5 wrR)) (bodyPost Tryz.prog Tryz.f5 (TrueP w)) { tmps := #[.string s, undef, .bool false, t3, .nilIface, t5, .iface 71 (.pointer (some ⟨q, 0, none⟩)), t7, t8, t9, t10, t11, t12, t13, t14, t15, t16, t17, undef, undef, undef, undef, undef, undef, undef, undef, undef, undef, undef, undef, undef, undef, undef, undef, undef, undef, undef, undef, undef, undef, undef], defers := [] } w2 := by
  have HE := Lib.hid (wraps_end hP w w2 kw hv b b2 hs q hq)
  clear kw hv hs hq
  refine wpB_seq_lone hP fun T d => ?_
  generalize hB : bodyPost Tryz.prog Tryz.f5 (TrueP w) = B at HE ⊢
  generalize hY : (Code.seq wr5 wrR) = Y at HE ⊢
  clear hB hY
  simp only [wr3, wr0, seqL, seqR, Tryz.f5, Option.getD_some]
  go_wp2
  exact HE.out _ _ _ _ _ _ _ _ _ _ _ _ _ _ _ _ _ _ _ _ _ _ _ _ _ _ _ _
end Go.Proofs.YtonmcakdofbjiaaGreatDoor
namespace Go.Proofs.YtonmcakdofbjiaaGreatDoor
open Go.RowKit Go.Bsd
set_option maxRecDepth 100000 in
set_option maxHeartbeats 500000 in
theorem wraps_fault (hP : TameProg Tryz.prog) (w w2 : World) (kw : Kin w w2) (hv : VarsOk w2) (b b2 : Addr) (hs : Sent w2 b b2) (q : Nat) (hq : FaultAt w2 q b) (q1 : Nat) (hq1 : FaultAt w2 q1 b) (s : ByteArray) (t3 t5 t7 t8 t9 t10 t11 t12 t13 t14 t15 t16 t17 : Value) :
    wpB Tryz.prog (.seq wr3 (.seq wr5 wrR)) (bodyPost Tryz.prog Tryz.f5 (TrueP w)) { tmps := #[.string s, undef, .bool false, t3, .iface 71 (.pointer (some ⟨q1, 0, none⟩)), t5, .iface 71 (.pointer (some ⟨q, 0, none⟩)), t7, t8, t9, t10, t11, t12, t13, t14, t15, t16, t17, undef, undef, undef, undef, undef, undef, undef, undef, undef, undef, undef, undef, undef, undef, undef, undef, undef, undef, undef, undef, undef, undef, undef], defers := [] } w2 := by
  have HE := Lib.hid (fun w3 (k : Kin w2 w3) => wraps_end hP w w3 (kw.trans k) (hv.kin k) b b2 (hs.kin k) q (hq.kin k))
  have c0 := hs.rej
  have hyes : Hid (∀ T d, Calls Tryz.prog 21 #[.iface 71 (.pointer (some ⟨q1, 0, none⟩)), .iface 253 (.pointer (some b))] (re w2 T d) fun e w' => e = .returned (.bool true) ∧ Hid (Kin w2 w') ∧ w'.cell? ⟨1, 0, none⟩ = some (.iface 253 (.pointer (some b2)))) := Lib.hid (fun T d => by
    obtain ⟨k, h1, h2⟩ := hq1
    exact (is_yes q1 k b (re w2 T d) h1 h2).mono fun e w' h => ⟨h.1, Lib.hid ((kin_re w2 T d).trans h.2), (hs.kin ((kin_re w2 T d).trans h.2)).conf⟩)
  have hno : Hid (∀ w3, Kin w2 w3 → Calls Tryz.prog 21 #[.iface 71 (.pointer (some ⟨q1, 0, none⟩)), .iface 253 (.pointer (some b2))] w3 fun e w' => e = .returned (.bool false) ∧ Hid (Kin w3 w')) := Lib.hid (fun w3 k3 => by
    obtain ⟨k, h1, h2⟩ := hq1.kin k3
    obtain ⟨c, t, m1⟩ := (hs.kin k3).mb
    obtain ⟨c2, t2, m2⟩ := (hs.kin k3).mb2
    exact (is_no q1 k b b2 c c2 t t2 w3 h1 h2 hs.ne m1 m2).mono fun e w' h => ⟨h.1, Lib.hid h.2⟩)
  clear kw hv hs hq hq1
  refine wpB_seq_lone hP fun T d => ?_
  generalize hB : bodyPost Tryz.prog Tryz.f5 (TrueP w) = B at HE ⊢
  generalize hY : (Code.seq wr5 wrR) = Y at HE ⊢
  clear hB hY
  have c0' : (re w2 T d).cell? ⟨0, 0, none⟩ = some (.iface 253 (.pointer (some b))) := c0
  simp only [wr3, wr0, seqL, seqR, Tryz.f5, Option.getD_some]
  go_wp2_with (go_at_call 21; with_reducible refine (hyes.out T d).mono ?_; rintro e w3 ⟨rfl, hk3, hc3⟩)
  have h21 := Lib.hid (hno.out w3 hk3.out)
  refine h21.out.mono ?_
  rintro e w4 ⟨rfl, hk4⟩
  clear h21
  dsimp only
  go_wp2_with fail
  exact HE.out _ (hk3.out.trans hk4.out) _ _ _ _ _ _ _ _ _ _ _ _ _ _ _ _ _ _ _ _ _ _ _ _ _ _ _ _
end Go.Proofs.YtonmcakdofbjiaaGreatDoor
namespace Go.Proofs.YtonmcakdofbjiaaGreatDoor
open Go.RowKit Go.Bsd
def badTail : ByteArray := { data := #[10, 32, 44, 32] }
def ErrIs (w : World) (b : Addr) (e : Value) : Prop := e = .nilIface ∨ ∃ q, e = .iface 71 (.pointer (some ⟨q, 0, none⟩)) ∧ FaultAt w q b
theorem ParPost.err {w w' : World} {b : Addr} {o : POut} {v : Value} (h : ParPost 253 (.pointer (some b)) w o (.returned v) w') : Kin w w' ∧ ∃ sl e, v = .tuple #[sl, e] ∧ ErrIs w' b e := by
  obtain ⟨k, hr⟩ := h
  refine ⟨k, ?_⟩
  cases o with
  | tree l => obtain ⟨sl, rfl, _⟩ := hr; exact ⟨sl, _, rfl, .inl rfl⟩
  | fault x p =>
    obtain ⟨q, rfl, _, hq⟩ := hr
    refine ⟨_, _, rfl, .inr ⟨q, rfl, x, ?_, ?_⟩⟩
    · simp [World.cell?, hq]
    · simp [World.cell?, hq]
theorem ParPost.fault {w w' : World} {b : Addr} {x p : Int} {v : Value} (h : ParPost 253 (.pointer (some b)) w (.fault x p) (.returned v) w') : Kin w w' ∧ ∃ sl q, v = .tuple #[sl, .iface 71 (.pointer (some ⟨q, 0, none⟩))] ∧ FaultAt w' q b := by
  obtain ⟨k, q, rfl, _, hq⟩ := h
  refine ⟨k, _, q, rfl, x, ?_, ?_⟩
  · simp [World.cell?, hq]
  · simp [World.cell?, hq]
set_option maxRecDepth 100000 in
set_option maxHeartbeats 1000000 in
theorem wraps_two (hP : TameProg Tryz.prog) (w w1 : World) (kw : Kin w w1) (hv : VarsOk w1) (b b2 : Addr) (hs : Sent w1 b b2) (s : ByteArray) (hz : (s ++ badTail).size ≤ 9223372036854775807) (x p : Int) (hbad : ParsesTo (s ++ badTail) (.fault x p)) (e1 : Value) (he : ErrIs w1 b e1) (t3 t7 t9 t10 : Value) :
    wpB Tryz.prog (.seq wr2 (.seq wr3 (.seq wr5 wrR))) (bodyPost Tryz.prog Tryz.f5 (TrueP w)) { tmps := #[.string s, undef, .bool false, t3, e1, undef, undef, t7, .string s, t9, t10, e1, undef, undef, undef, undef, undef, undef, undef, undef, undef, undef, undef, undef, undef, undef, undef, undef, undef, undef, undef, undef, undef, undef, undef, undef, undef, undef, undef, undef, undef], defers := [] } w1 := by
  have hz2 : ¬ 9223372036854775807 < s.size + 4 := by
    have e : (s ++ badTail).size = s.size + 4 := by rw [ByteArray.size_append]; rfl
    omega
  have HP := Lib.hid (parse_any hP (s ++ badTail) hz 253 _ w1 hv hs.rej _ hbad)
  have HV := Lib.hid hv
  have HS := Lib.hid hs
  have HE := Lib.hid he
  have KW := Lib.hid kw
  clear hv hs he kw hbad
  refine wpB_seq hP ?_
  obtain ⟨id, hid⟩ := wr2_is
  rw [hid]
  clear hid
  generalize hX : (Code.seq wr3 (.seq wr5 wrR)) = X
  have HX := Lib.hid hX
  clear hX
  generalize hB : bodyPost Tryz.prog Tryz.f5 (TrueP w) = B
  have HB := Lib.hid hB
  clear hB
  simp only [wr2, wr0, seqL, seqR, regOps, Tryz.f5, Option.getD_some]
  refine wpB_region hP (l := [_, _, _, _, _, _, _, _]) ?_
  refine listB_cut hP [_, _] [_, _, _, _, _, _] fun T d => ?_
  generalize hN : listB Tryz.prog _ _ _ = N
  have HN := Lib.hid hN
  clear hN
  go_wp2
  rw [← HN.out]
  refine listB_tape ?_
  refine listB_fn hP Tryz.func14 (by kernel_rfl) (by kernel_rfl) rfl rfl (args := #[.string (s ++ badTail)]) (by simp [Act.eval, evalT, badTail]) (HP.out.mono ?_)
  rintro e w2 hpost
  cases e with
  | outgrown => exact hpost.elim
  | panicked _ => exact hpost.elim
  | returned v =>
    obtain ⟨k2, sl, q, rfl, hq⟩ := ParPost.fault hpost
    have hE2 : Hid (∀ t7 t8 t9 t10 t11 t12 t13 t14 t15 t16 t17 t5, wpB Tryz.prog X B { tmps := #[.string s, undef, .bool false, t3, e1, t5, .iface 71 (.pointer (some ⟨q, 0, none⟩)), t7, t8, t9, t10, t11, t12, t13, t14, t15, t16, t17, undef, undef, undef, undef, undef, undef, undef, undef, undef, undef, undef, undef, undef, undef, undef, undef, undef, undef, undef, undef, undef, undef, undef], defers := [] } w2) := Lib.hid (fun t7 t8 t9 t10 t11 t12 t13 t14 t15 t16 t17 t5 => by
      rw [← HX.out, ← HB.out]
      rcases HE.out with rfl | ⟨q1, rfl, hq1⟩
      · exact wraps_nil hP w w2 (KW.out.trans k2) (HV.out.kin k2) b b2 (HS.out.kin k2) q hq s t3 t5 t7 t8 t9 t10 t11 t12 t13 t14 t15 t16 t17
      · exact wraps_fault hP w w2 (KW.out.trans k2) (HV.out.kin k2) b b2 (HS.out.kin k2) q hq q1 (hq1.kin k2) s t3 t5 t7 t8 t9 t10 t11 t12 t13 t14 t15 t16 t17)
    clear k2 hq hpost HN
    show listB Tryz.prog _ _ _ _ w2
    generalize hM : Exit.then (wpB Tryz.prog X B) B = M
    have HM := Lib.hid hM
    clear hM
    refine listB_lift hP fun T d => ?_
    go_wp2
    rw [← HM.out]
    exact hE2.out _ _ _ _ _ _ _ _ _ _ _ _
set_option maxRecDepth 100000 in
set_option maxHeartbeats 1000000 in
theorem wraps_any (hP : TameProg Tryz.prog) (w : World) (hv : VarsOk w) (b b2 : Addr) (hs : Sent w b b2) (s : ByteArray) (hz : (s ++ badTail).size ≤ 9223372036854775807) (hzs : s.size ≤ 9223372036854775807) (x p : Int) (hbad : ParsesTo (s ++ badTail) (.fault x p)) : CallsB Tryz.prog 5 #[.string s] w (TrueP w) := by
  have hR : ∀ w', ¬ TrueP w .outgrown w' := fun w' h => h
  refine callsB_of_wpB hP Tryz.func5 (c := wr0) rfl hR ?_
  rw [wr0_is]
  have ha : (#[.string s] ++ Array.replicate (Tryz.f5.ntmps - (#[.string s] : Array Value).size) undef) = #[.string s, undef, undef, undef, undef, undef, undef, undef, undef, undef, undef, undef, undef, undef, undef, undef, undef, undef, undef, undef, undef, undef, undef, undef, undef, undef, undef, undef, undef, undef, undef, undef, undef, undef, undef, undef, undef, undef, undef, undef, undef] := by
    simp only [Tryz.ntmps5]
    simp [Array.replicate_succ]
  rw [ha]
  clear ha
  obtain ⟨o, ho⟩ := parses_ex s
  have HP := Lib.hid (parse_any hP s hzs 253 _ w hv hs.rej o ho)
  have HV := Lib.hid hv
  have HS := Lib.hid hs
  have HBAD := Lib.hid hbad
  clear hv hs ho hbad
  refine wpB_seq_lone hP fun T d => ?_
  generalize hB : bodyPost Tryz.prog Tryz.f5 (TrueP w) = B
  have HB := Lib.hid hB
  clear hB
  generalize hX : (Code.seq wr2 (.seq wr3 (.seq wr5 wrR))) = X
  have HX := Lib.hid hX
  clear hX
  generalize hY : (Code.seq wr1 X) = Y
  simp only [seqL, wr0, Tryz.f5, Option.getD_some]
  go_wp2
  subst hY
  refine wpB_tape ?_
  refine wpB_seq hP ?_
  obtain ⟨id, hid⟩ := wr1_is
  rw [hid]
  clear hid
  simp only [wr1, wr0, seqL, seqR, regOps, Tryz.f5, Option.getD_some]
  refine wpB_region hP (l := [_, _, _, _, _, _, _]) ?_
  refine listB_cut hP [_] [_, _, _, _, _, _] fun T d => ?_
  generalize hN : listB Tryz.prog _ _ _ = N
  have HN := Lib.hid hN
  clear hN
  go_wp2
  rw [← HN.out]
  refine listB_tape ?_
  refine listB_fn hP Tryz.func14 (by kernel_rfl) (by kernel_rfl) rfl rfl (args := #[.string s]) (by simp [Act.eval, evalT]) (HP.out.mono ?_)
  rintro e w1 hpost
  cases e with
  | outgrown => exact hpost.elim
  | panicked _ => exact hpost.elim
  | returned v =>
    obtain ⟨k1, sl, e1, rfl, he⟩ := ParPost.err hpost
    have hE2 : Hid (∀ t3 t7 t9 t10, wpB Tryz.prog X B { tmps := #[.string s, undef, .bool false, t3, e1, undef, undef, t7, .string s, t9, t10, e1, undef, undef, undef, undef, undef, undef, undef, undef, undef, undef, undef, undef, undef, undef, undef, undef, undef, undef, undef, undef, undef, undef, undef, undef, undef, undef, undef, undef, undef], defers := [] } w1) := Lib.hid (fun t3 t7 t9 t10 => by
      rw [← HX.out, ← HB.out]
      exact wraps_two hP w w1 k1 (HV.out.kin k1) b b2 (HS.out.kin k1) s hz x p HBAD.out e1 he t3 t7 t9 t10)
    clear k1 he hpost HN
    show listB Tryz.prog _ _ _ _ w1
    generalize hM : Exit.then (wpB Tryz.prog X B) B = M
    have HM := Lib.hid hM
    clear hM
    refine listB_lift hP fun T d => ?_
    go_wp2
    rw [← HM.out]
    exact hE2.out _ _ _ _
end Go.Proofs.YtonmcakdofbjiaaGreatDoor
