/-
  The parts: base Shp11 base Sam1 base Fix1 base Lnt1 base Lnt2 base Rsh1 base Rsh3 base Rsh4 base Rsh5
-/
import Derived.Test.YtonmcakdofbjiaaDoorV26
import Derived.Laws.StructEq
import Derived.Test.YtonmcakdofbjiaaDoorV23
import Derived.Laws.AppendOwnNone
import Derived.Test.YtonmcakdofbjiaaDoorV24
set_option linter.unusedVariables false
set_option linter.unusedSimpArgs false
set_option linter.unusedSectionVars false
set_option linter.unnecessarySimpa false
set_option maxRecDepth 100000
set_option maxHeartbeats 8000000
namespace Go.Proofs.YtonmcakdofbjiaaDoor
open Go.RowKit
def NodesAt (w : World) (v : Value) (l : List Nd) : Prop :=
 ∃ b cap, v = .slice b l.length cap /\ l.length <= cap /\ (l ≠ [] -> ∃ g off, b = some ⟨g, off, none⟩ /\ ∀ (j : Nat) (n : Nd), l[j]? = some n -> ∀ (k : Nat) (c : Value), n.cells[k]? = some c -> w.cell? ⟨g, off + j * 6 + k, none⟩ = some c)
theorem NodesAt.kin {w w' : World} {v : Value} {l : List Nd} (h : NodesAt w v l) (k : Kin w w') : NodesAt w' v l := by
 obtain ⟨b, cap, h1, h2, h3⟩ := h
 refine ⟨b, cap, h1, h2, fun hl => ?_⟩
 obtain ⟨g, off, h4, h5⟩ := h3 hl
 refine ⟨g, off, h4, fun j n hj x c hc => ?_⟩
 have := h5 j n hj x c hc
 exact (k.cell (World.block_lt_of_cell? w ⟨g, _, none⟩ this)).trans this
theorem ShM.start {w : World} {c : Array Value} {B : Nat} (hc : c.size = 104) (hB : B <= w.heap.size) : ShM ((w.alloc (.cells c 66)).alloc (.cells #[.slice (some ⟨w.heap.size, 0, none⟩) 0 26, .bool true] 42)) B (w.heap.size + 1) w.heap.size [] true := by
 have h1 := (World.rowIs_alloc w c 66 (fun i => c[i]?.getD undef) fun i hi => by simp [hi]).alloc (.cells #[.slice (some ⟨w.heap.size, 0, none⟩) 0 26, .bool true] 42)
 have h2 := World.rowIs_alloc (w.alloc (.cells c 66)) #[.slice (some ⟨w.heap.size, 0, none⟩) 0 26, .bool true] 42 (shF w.heap.size 0 true) (fun i hi => by
   match i, hi with
   | 0, _ => rfl
   | 1, _ => rfl)
 rw [hc] at h1
 have hs : (w.alloc (.cells c 66)).heap.size = w.heap.size + 1 := by simp
 rw [hs] at h2
 exact ⟨h2, ⟨_, h1, fun j h hj => by simp at hj⟩, by simp, by omega, by omega, hB⟩
theorem four_cell (w : World) (a b c d e f : Value) : (w.alloc (.cells #[a, b, c, d, e, f] 26)).cell? ⟨w.heap.size, 0, none⟩ = some a := by
 simp [go_sem]
theorem make26 : ∃ c : Array Value, c.size = 104 /\ ∀ u : World, (Instr.makeSlice 40 (.int .i64 0) (.int .i64 26)).run Tryd.prog u = .ok (.slice (some ⟨u.heap.size, 0, none⟩) 0 26) (u.alloc (.cells c 66)) := by
 obtain ⟨ti, hi, hz0, hz1, hz2⟩ := info_parts info157
 have h := fun u : World => run_make (P := Tryd.prog) u 40 66 ti _ Tryd.underlying40 hi hz0 .i64 .i64 0 26 (by omega) (by omega) (by rw [hz2]; decide) (by omega)
 refine ⟨_, ?_, h⟩
 rw [size_madeCells]
 show 26 * ti.size = 104
 rw [hz1]
theorem shape_any (l : List Nd) (hl : ∀ n ∈ l, n.name.size <= 140737488355328 /\ -9223372036854775808 <= n.depth /\ n.depth <= 9223372036854775807) (hlen : l.length <= 9223372036854775807) (v : Value) (w : World) (h : NodesAt w v l) :
   Calls Tryd.prog 6 #[v] w fun e w' => e = .returned (.tuple #[.int .i64 (shapeF l).1, .int .i64 (shapeF l).2]) /\ Kin w w' := by
 have HL := Lib.hid hl
 have HN := Lib.hid h
 clear hl
 obtain ⟨b, cap, rfl, hcap, hne⟩ := h
 have HNE := Lib.hid hne
 clear hne
 by_cases hm : 300 < l.length
 · have hs : shapeF l = (32, 300) := by unfold shapeF; rw [if_pos hm]
   have hd : decide ((300 : Int) < (l.length : Int)) = true := by simp; omega
   rw [hs]
   clear hs hm
   go_enter Tryd.func6, Tryd.ntmps6
   go_wp2
   go_ret2
   exact ⟨rfl, Kin.refl _⟩
 · have hs : shapeF l = shapeG [] true 0 l := by unfold shapeF; rw [if_neg hm]
   have hd : decide ((300 : Int) < (l.length : Int)) = false := by simp; omega
   rw [hs]
   obtain ⟨c, hc, hmk⟩ := make26
   have HM := Lib.hid (ShM.start (w := w) hc (Nat.le_refl _))
   have HK := Lib.hid ((Kin.refl w).alloc (.cells c 66))
   generalize hR : shapeG [] true 0 l = R
   have HR := Lib.hid hR
   clear hs hR
   go_enter Tryd.func6, Tryd.ntmps6
   go_wp2_with fail
   have h0 : ShM ((w.alloc (.cells c 66)).alloc (.cells #[.slice (some ⟨w.heap.size, 0, none⟩) 0 26, .bool true] 42)) w.heap.size (w.heap.size + 1) w.heap.size [] true := HM.out
   have k0 : Kin w ((w.alloc (.cells c 66)).alloc (.cells #[.slice (some ⟨w.heap.size, 0, none⟩) 0 26, .bool true] 42)) := HK.out.alloc _
   have HM0 := Lib.hid h0
   have HK0 := Lib.hid k0
   clear h0 k0 HM HK hmk hc
   generalize (w.alloc (.cells c 66)).alloc (.cells #[.slice (some ⟨w.heap.size, 0, none⟩) 0 26, .bool true] 42) = W0 at HM0 HK0 ⊢
   obtain ⟨R1, R2⟩ := R
   go_loopg [15] l.length (fun g x wq => ∃ (k : Nat) (o : List Hold) (heads : Bool) (st : List Opn) (begun : Bool), x = .int .i64 k /\ k <= l.length /\ g = l.length - k /\ ShM wq w.heap.size (w.heap.size + 1) w.heap.size o heads /\ ShI o heads st begun /\ o.length <= 24 /\ Ap (w.heap.size + 1) w.heap.size W0 wq /\ shapeG o heads k (l.drop k) = (R1, R2))
   case atStart => exact ⟨0, [], true, [], false, rfl, Nat.zero_le _, rfl, HM0.out, ShI.start, by decide, Ap.refl _, HR.out⟩
   case round =>
     obtain ⟨k, o, heads, st, begun, rfl, hk, hg, hS, hI, ho, hA, hG⟩ := hrel
     have HS := Lib.hid hS
     have HI := Lib.hid hI
     have HA := Lib.hid hA
     have HG := Lib.hid hG
     have HGG := Lib.hid hg
     have HO := Lib.hid ho
     clear hS hI hA hG hg ho
     have kin : ∀ w' : World, Ap (w.heap.size + 1) w.heap.size wr w' -> Kin w w' := fun w' h => by
       have a := HA.out.trans h
       have q := HK0.out
       have qs := q.size
       exact ⟨a.os.trans q.os, a.out.trans q.out, Nat.le_trans q.size a.size, fun j hj => (a.block j (by omega) (by omega) (by omega)).trans (q.block j hj)⟩
     have KIN := Lib.hid kin
     clear kin
     by_cases hlk : k < l.length
     · obtain ⟨⟨depth, kind, name, num, op, at_⟩, hu⟩ : ∃ u, l[k]? = some u := ⟨_, List.getElem?_eq_getElem hlk⟩
       obtain ⟨gb, off, rfl, hcell⟩ := HNE.out (by rintro rfl; simp at hlk)
       have cells : ∀ (x : Nat) (v : Value), (Nd.mk depth kind name num op at_).cells[x]? = some v -> wr.cell? ⟨gb, off + k * 6 + x, none⟩ = some v := fun x v hv => by
         have := hcell k _ hu x v hv
         have hb := World.block_lt_of_cell? w _ this
         have h2 := HK0.out.cell (n := gb) (o := off + k * 6 + x) hb
         have hbz : gb < w.heap.size := hb
         have hs0 := HK0.out.size
         exact ((HA.out.cell (by omega) (by omega) (by omega)).trans h2).trans this
       have r0 := cells 0 _ rfl
       have r1 := cells 1 _ rfl
       have r2 := cells 2 _ rfl
       have r3 := cells 3 _ rfl
       have r4 := cells 4 _ rfl
       have r5 := cells 5 _ rfl
       simp only [Nat.add_zero] at r0
       have hul := HL.out _ (List.mem_of_getElem? hu)
       have hdrop : l.drop k = ⟨depth, kind, name, num, op, at_⟩ :: l.drop (k + 1) := by
         rw [List.drop_eq_getElem_cons hlk]
         rw [List.getElem?_eq_getElem hlk] at hu
         rw [Option.some.inj hu]
       have HC := Lib.hid hcell
       have HU := Lib.hid hul
       have HDR := Lib.hid hdrop
       clear cells hcell hu hul hdrop
       have hAl : Ap (w.heap.size + 1) w.heap.size wr (wr.alloc (.cells #[.int .i64 depth, .int .i64 kind, .string name, .int .i64 num, .int .i64 op, .int .i64 at_] 26)) := Ap.of_kin ((Kin.refl _).alloc _)
       have hst := stands_any ⟨depth, kind, name, num, op, at_⟩ HU.out.1 _ (HS.out.kin ((Kin.refl wr).alloc (.cells #[.int .i64 depth, .int .i64 kind, .string name, .int .i64 num, .int .i64 op, .int .i64 at_] 26))) HI.out HO.out
       have hsm := stand_same HI.out HO.out ⟨depth, kind, name, num, op, at_⟩ HU.out.2.1 HU.out.2.2
       have hG := HG.out
       rw [HDR.out] at hG
       unfold shapeG at hG
       unfold StandPost at hst
       cases hsf : standF o heads ⟨depth, kind, name, num, op, at_⟩ with
       | none =>
         rw [hsf] at hG hst
         cases hG
         have hst2 : Calls Tryd.prog 12 #[.pointer (some ⟨w.heap.size + 1, 0, none⟩), .agg #[.int .i64 depth, .int .i64 kind, .string name, .int .i64 num, .int .i64 op, .int .i64 at_]] (wr.alloc (.cells #[.int .i64 depth, .int .i64 kind, .string name, .int .i64 num, .int .i64 op, .int .i64 at_] 26)) (fun e w' => e = .returned (.bool false) /\ Kin w w') := hst.mono fun e w' h => ⟨h.2, KIN.out _ (hAl.trans h.1)⟩
         clear hst hsf hsm hAl
         go_wp2_with (go_at_call 12; refine hst2.mono ?_; rintro e w3 ⟨rfl, hk3⟩)
         go_ret2
         exact ⟨rfl, hk3⟩
       | some p =>
         obtain ⟨o', h'⟩ := p
         rcases hsm with ⟨e1, _⟩ | ⟨o1, h1, st1, b1, e1, _, e3, e4⟩
         · rw [hsf] at e1; cases e1
         rw [hsf] at e1
         cases e1
         rw [hsf] at hG hst
         dsimp only at hG
         have E3 := Lib.hid e3
         have E4 := Lib.hid e4
         have hst2 : Calls Tryd.prog 12 #[.pointer (some ⟨w.heap.size + 1, 0, none⟩), .agg #[.int .i64 depth, .int .i64 kind, .string name, .int .i64 num, .int .i64 op, .int .i64 at_]] (wr.alloc (.cells #[.int .i64 depth, .int .i64 kind, .string name, .int .i64 num, .int .i64 op, .int .i64 at_] 26)) (fun e w' => e = .returned (.bool true) /\ Ap (w.heap.size + 1) w.heap.size wr w' /\ ShM w' w.heap.size (w.heap.size + 1) w.heap.size o' h' /\ w'.cell? ⟨wr.heap.size, 0, none⟩ = some (.int .i64 depth)) := hst.mono fun e w' h => ⟨h.2.1, hAl.trans h.1, h.2.2, by
           have hz := HA.out.size
           have hz0 := HK0.out.size
           have hb := HM0.out.s.lt
           exact (h.1.cell (by simp) (by omega) (by omega)).trans (four_cell wr _ _ _ _ _ _)⟩
         clear hst hsf hAl e3 e4
         by_cases hd24 : 24 < depth
         · rw [if_pos hd24] at hG
           cases hG
           have hdd : decide (24 < depth) = true := by simp [hd24]
           have HD24 := Lib.hid hd24
           clear hd24
           go_wp2_with (go_at_call 12; refine hst2.mono ?_; rintro e w3 ⟨rfl, hA3, hS3, hc3⟩)
           go_ret2
           exact ⟨rfl, KIN.out _ hA3⟩
         · rw [if_neg hd24] at hG
           have hdd : decide (24 < depth) = false := by simp; omega
           have HD24 := Lib.hid hd24
           have HG2 := Lib.hid hG
           clear hd24 hG
           go_wp2_with (go_at_call 12; refine hst2.mono ?_; rintro e w3 ⟨rfl, hA3, hS3, hc3⟩)
           go_roundg (l.length - (k + 1))
           case measure => have := HGG.out; omega
           case rel => exact ⟨k + 1, o', h', _, _, by simp, by omega, rfl, hS3, E4.out, by have := E3.out; have := HD24.out; omega, HA.out.trans hA3, HG2.out⟩
     · have hkl : k = l.length := by omega
       subst hkl
       have hG := HG.out
       rw [List.drop_length] at hG
       unfold shapeG at hG
       have hwt := wanting_any wr HS.out
       cases hw : wantIx o with
       | none =>
         rw [hw] at hG hwt
         cases hG
         have HK1 := Lib.hid (KIN.out _ (Ap.refl _))
         go_wp2_with (go_at_call 13; refine hwt.mono ?_; rintro e w3 ⟨rfl, rfl⟩)
         go_ret2
         exact ⟨rfl, HK1.out⟩
       | some u =>
         rw [hw] at hG hwt
         cases hG
         have hx : decide ((0 : Int) <= ixV (some u)) = true := by simp [ixV]
         have HK1 := Lib.hid (KIN.out _ (Ap.refl _))
         go_wp2_with (go_at_call 13; refine hwt.mono ?_; rintro e w3 ⟨rfl, rfl⟩)
         go_ret2
         exact ⟨rfl, HK1.out⟩
end Go.Proofs.YtonmcakdofbjiaaDoor
namespace Go.Proofs.YtonmcakdofbjiaaDoor
open Go.RowKit
instance : DecidableEq Nd := fun a b => decidable_of_iff (a.depth = b.depth /\ a.kind = b.kind /\ a.name = b.name /\ a.num = b.num /\ a.op = b.op /\ a.at_ = b.at_) (by cases a; cases b; simp)
theorem guard50 : Tryd.prog.eqGuardType Tryd.prog.depth 26 = false := by kernel_rfl
theorem held50 : Tryd.prog.stoodInHeld 26 = false := by kernel_rfl
theorem struct50 : Tryd.prog.underlying 26 = some (.struct (Tryd.prog.fieldsOf 26)) := by kernel_rfl
theorem eq50 (a1 a2 : Int) (a3 : ByteArray) (a4 a5 a6 b1 b2 : Int) (b3 : ByteArray) (b4 b5 b6 : Int) (w : World) : (Op.equalIn 10000 26 (.agg #[.int .i64 a1, .int .i64 a2, .string a3, .int .i64 a4, .int .i64 a5, .int .i64 a6]) (.agg #[.int .i64 b1, .int .i64 b2, .string b3, .int .i64 b4, .int .i64 b5, .int .i64 b6])).run Tryd.prog w = .ok (decide (Nd.mk a1 a2 a3 a4 a5 a6 = Nd.mk b1 b2 b3 b4 b5 b6)) w := by
 rw [show (10000 : Nat) = 9999 + 1 from rfl, run_equalIn_agg w 9999 26 _ _ struct50 held50]
 simp only [Program.fieldsOf, Tryd.underlying26]
 simp [go_sem, Op.eqFields]
 have hx : (a3.toList = b3.toList) ↔ a3 = b3 := by
   constructor
   · intro h
     rw [ByteArray.toList_eq, ByteArray.toList_eq] at h
     obtain ⟨⟨x⟩⟩ := a3
     obtain ⟨⟨y⟩⟩ := b3
     have h' : x = y := h
     rw [h']
   · rintro rfl; rfl
 by_cases h1 : a1 = b1 <;> by_cases h2 : a2 = b2 <;> by_cases h3 : a3 = b3 <;> by_cases h4 : a4 = b4 <;> by_cases h5 : a5 = b5 <;> by_cases h6 : a6 = b6 <;> simp [h1, h2, h3, h4, h5, h6, hx]
theorem NodesAt.at {w : World} {b : Option Addr} {n cap : Nat} {l : List Nd} (h : NodesAt w (.slice b n cap) l) (hl : l ≠ []) : ∃ g off, b = some ⟨g, off, none⟩ /\ ∀ (j : Nat) (n : Nd), l[j]? = some n -> ∀ (k : Nat) (c : Value), n.cells[k]? = some c -> w.cell? ⟨g, off + j * 6 + k, none⟩ = some c := by
 obtain ⟨b', cap', h1, h2, h3⟩ := h
 cases h1
 exact h3 hl
theorem same_any (l1 l2 : List Nd) (hl1 : l1.length <= 9223372036854775807) (hl2 : l2.length <= 9223372036854775807) (v1 v2 : Value) (w : World) (h1 : NodesAt w v1 l1) (h2 : NodesAt w v2 l2) :
   Calls Tryd.prog 11 #[v1, v2] w fun e w' => e = .returned (.bool (decide (l1 = l2))) /\ Kin w w' := by
 have HN1 := Lib.hid h1
 have HN2 := Lib.hid h2
 obtain ⟨b1, cap1, rfl, hcap1, hne1⟩ := h1
 obtain ⟨b2, cap2, rfl, hcap2, hne2⟩ := h2
 clear hne1 hne2
 by_cases hlen : l1.length = l2.length
 · have hd : ((l1.length : Int) != (l2.length : Int)) = false := by simp [hlen]
   have HLEN := Lib.hid hlen
   clear hlen
   generalize hR : decide (l1 = l2) = R
   have HR := Lib.hid hR
   clear hR
   go_enter Tryd.func11, Tryd.ntmps11
   go_wp2_with fail
   go_loopg [5] l1.length (fun g x wq => ∃ k : Nat, x = .int .i64 k /\ k <= l1.length /\ g = l1.length - k /\ Kin w wq /\ ∀ j, j < k -> l1[j]? = l2[j]?)
   case atStart => exact ⟨0, rfl, Nat.zero_le _, rfl, Kin.refl _, fun j hj => by omega⟩
   case round =>
     obtain ⟨k, rfl, hk, hg, hK, hsame⟩ := hrel
     have HG := Lib.hid hg
     have HK := Lib.hid hK
     have HS := Lib.hid hsame
     clear hg hK hsame
     by_cases hlk : k < l1.length
     · have hlk2 : k < l2.length := by have := HLEN.out; omega
       obtain ⟨⟨a1, a2, a3, a4, a5, a6⟩, hu1⟩ : ∃ u, l1[k]? = some u := ⟨_, List.getElem?_eq_getElem hlk⟩
       obtain ⟨⟨c1, c2, c3, c4, c5, c6⟩, hu2⟩ : ∃ u, l2[k]? = some u := ⟨_, List.getElem?_eq_getElem hlk2⟩
       obtain ⟨g1, off1, rfl, hcell1⟩ := HN1.out.at (by rintro rfl; simp at hlk)
       obtain ⟨g2, off2, rfl, hcell2⟩ := HN2.out.at (by rintro rfl; simp at hlk2)
       have cells1 : ∀ (x : Nat) (v : Value), (Nd.mk a1 a2 a3 a4 a5 a6).cells[x]? = some v -> wr.cell? ⟨g1, off1 + k * 6 + x, none⟩ = some v := fun x v hv => by
         have := hcell1 k _ hu1 x v hv
         exact (HK.out.cell (World.block_lt_of_cell? w _ this)).trans this
       have cells2 : ∀ (x : Nat) (v : Value), (Nd.mk c1 c2 c3 c4 c5 c6).cells[x]? = some v -> wr.cell? ⟨g2, off2 + k * 6 + x, none⟩ = some v := fun x v hv => by
         have := hcell2 k _ hu2 x v hv
         exact (HK.out.cell (World.block_lt_of_cell? w _ this)).trans this
       have r0 := cells1 0 _ rfl
       have r1 := cells1 1 _ rfl
       have r2 := cells1 2 _ rfl
       have r3 := cells1 3 _ rfl
       have r4 := cells1 4 _ rfl
       have r5 := cells1 5 _ rfl
       have s0 := cells2 0 _ rfl
       have s1 := cells2 1 _ rfl
       have s2 := cells2 2 _ rfl
       have s3 := cells2 3 _ rfl
       have s4 := cells2 4 _ rfl
       have s5 := cells2 5 _ rfl
       simp only [Nat.add_zero] at r0 s0
       have he := eq50 a1 a2 a3 a4 a5 a6 c1 c2 c3 c4 c5 c6
       have hgd := guard50
       have HU1 := Lib.hid hu1
       have HU2 := Lib.hid hu2
       clear cells1 cells2 hcell1 hcell2 hu1 hu2
       by_cases hab : Nd.mk a1 a2 a3 a4 a5 a6 = Nd.mk c1 c2 c3 c4 c5 c6
       · rw [decide_eq_true hab] at he
         have HAB := Lib.hid hab
         clear hab
         go_wp2_with fail
         go_region
         go_wp2_with fail
         go_roundg (l1.length - (k + 1))
         case measure => have := HG.out; omega
         case rel =>
           refine ⟨k + 1, by simp, by omega, rfl, HK.out.drewN _, fun j hj => ?_⟩
           by_cases e : j = k
           · subst e; rw [HU1.out, HU2.out, HAB.out]
           · exact HS.out j (by omega)
       · rw [decide_eq_false hab] at he
         have hRf : R = false := by
           rw [<- HR.out, decide_eq_false_iff_not]
           rintro rfl
           have h1 := HU1.out
           rw [HU2.out] at h1
           exact hab (Option.some.inj h1).symm
         subst hRf
         clear hab
         go_wp2_with fail
         go_region
         go_wp2_with fail
         go_ret
         exact ⟨rfl, HK.out.drewN _⟩
     · have hkl : k = l1.length := by omega
       subst hkl
       have hRt : R = true := by
         rw [<- HR.out, decide_eq_true_iff]
         apply List.ext_getElem?
         intro j
         by_cases hj : j < l1.length
         · exact HS.out j hj
         · rw [List.getElem?_eq_none (by omega), List.getElem?_eq_none (by have := HLEN.out; omega)]
       subst hRt
       go_wp2_with fail
       go_ret
       exact ⟨rfl, HK.out⟩
 · have hd : ((l1.length : Int) != (l2.length : Int)) = true := by simp; omega
   have hn : decide (l1 = l2) = false := by
     rw [decide_eq_false_iff_not]
     rintro rfl
     exact hlen rfl
   rw [hn]
   clear hlen
   go_enter Tryd.func11, Tryd.ntmps11
   go_wp2_with fail
   go_ret
   exact ⟨rfl, Kin.refl _⟩
end Go.Proofs.YtonmcakdofbjiaaDoor
namespace Go.Proofs.YtonmcakdofbjiaaDoor
open Go.RowKit Go.Bsd
def fixedText : ByteArray := { data := #[120, 32, 58, 61, 32, 49, 32, 45, 32, 50, 59] }
def fixedTree : List Nd := [⟨1, 2, { data := #[120] }, 0, 0, 0⟩, ⟨2, 15, { data := #[] }, 0, 4, 7⟩, ⟨3, 10, { data := #[] }, 1, 0, 5⟩, ⟨3, 10, { data := #[] }, 2, 0, 9⟩]
theorem fixed_bad : (badOf (pieces fixedText)).1 = 0 := by kernel_rfl
theorem fixed_rd : (rd (ctx0 fixedText) 60 .prog 0).map outOfRes = some (.tree fixedTree) := by kernel_rfl
theorem fixed_parses : ParsesTo fixedText (.tree fixedTree) := by
 unfold ParsesTo
 rw [if_neg (by decide), if_neg (by rw [fixed_bad]; simp)]
 obtain ⟨r, h1, h2⟩ := Option.map_eq_some_iff.1 fixed_rd
 exact ⟨60, r, h1, h2.symm⟩
theorem fixed_shape : shapeF fixedTree = (0, 0) := by kernel_rfl
theorem fixed_shape3 : shapeF (fixedTree.take 3) = (33, 3) := by kernel_rfl
theorem NodesAt.of_owns {w : World} {base : Nat} {v : Value} {l : List Nd} (h : w.ownsRow base 26 6 v l.length (ndCells l)) : NodesAt w v l := by
 have h0 := h
 rcases h.2 with ⟨rfl, hn⟩ | ⟨g, cap, cur, rfl, hb, hg, hc, _, _, _⟩
 · refine ⟨none, 0, by rw [hn], by omega, fun hl => absurd (List.eq_nil_of_length_eq_zero hn) hl⟩
 · refine ⟨_, cap, rfl, hc, fun _ => ⟨g, 0, rfl, fun j n hj k c hk => ?_⟩⟩
   have hk6 : k < 6 := by have := (List.getElem?_eq_some_iff.1 hk).1; simpa [Nd.cells] using this
   have := h0.cells rfl (j * 6 + k) c ((nd_get hj k hk6).trans hk)
   rw [show ((⟨g, 0, none⟩ : Addr).add (j * 6 + k)) = ⟨g, j * 6 + k, none⟩ from by unfold Addr.add; split <;> simp_all] at this
   rw [show 0 + j * 6 + k = j * 6 + k from by omega]
   exact this
theorem NodesAt.of_block {w : World} {g : Nat} {cur : Array Value} {l : List Nd} {n cap : Nat} (hg : w.heap[g]? = some (.cells cur 26 (0, 0))) (hc : cur.toList.take (l.length * 6) = ndCells l) (hn : n = l.length) (hcap : l.length <= cap) : NodesAt w (.slice (some ⟨g, 0, none⟩) n cap) l := by
 refine ⟨_, cap, by rw [hn], hcap, fun _ => ⟨g, 0, rfl, fun j n hj k c hk => ?_⟩⟩
 have hk6 : k < 6 := by have := (List.getElem?_eq_some_iff.1 hk).1; simpa [Nd.cells] using this
 have hjl := (List.getElem?_eq_some_iff.1 hj).1
 have h2 := (nd_get hj k hk6).trans hk
 rw [<- hc, List.getElem?_take, if_pos (by omega)] at h2
 rw [show 0 + j * 6 + k = j * 6 + k from by omega]
 unfold World.cell?
 simp [hg]
 simpa using h2
theorem kin_re (w : World) (T : Nat -> Question -> Nat) (d : Nat) : Kin w (re w T d) := ⟨rfl, rfl, Nat.le_refl _, fun _ _ => rfl⟩
def TrueP (w : World) : Ending -> World -> Prop
 | .returned v, w' => v = .bool true /\ Kin w w'
 | _, _ => False
end Go.Proofs.YtonmcakdofbjiaaDoor
namespace Go.Proofs.YtonmcakdofbjiaaDoor
open Go.RowKit
theorem Kin.grownK {w W W' : World} {row : Option Nat} (h : Kin w W) (g : W.grownBy W' row) (hr : ∀ k, row = some k -> w.heap.size <= k) : Kin w W' :=
 ⟨g.os.trans h.os, g.output.trans h.out, Nat.le_trans h.size g.size, fun k hk => (g.block k (Nat.lt_of_lt_of_le hk h.size) (fun e => by have := hr k e.symm; omega)).trans (h.block k hk)⟩
def roomNd : Nd := ⟨-7, 0, { data := #[114, 111, 111, 109] }, 0, 0, 0⟩
theorem ndCells_len (l : List Nd) : (ndCells l).length = l.length * 6 := by
 induction l with
 | nil => rfl
 | cons x l ih =>
   have e : ndCells (x :: l) = x.cells ++ ndCells l := by simp [ndCells]
   rw [e, List.length_append, ih]
   show 6 + _ = (l.length + 1) * 6
   omega
theorem ndCells_one (l : List Nd) : ∀ u ∈ ndCells l, u.oneCell' = true := by
 intro u hu
 simp only [ndCells, List.mem_flatMap] at hu
 obtain ⟨n, _, hn⟩ := hu
 simp only [Nd.cells, List.mem_cons, List.not_mem_nil, or_false] at hn
 rcases hn with rfl | rfl | rfl | rfl | rfl | rfl <;> rfl
theorem add_plain (g off k : Nat) : (⟨g, off, none⟩ : Addr).add k = ⟨g, off + k, none⟩ := by unfold Addr.add; split <;> simp_all
theorem flat_cells {w : World} {g off : Nat} {l : List Nd} (h : ∀ (j : Nat) (n : Nd), l[j]? = some n -> ∀ (k : Nat) (c : Value), n.cells[k]? = some c -> w.cell? ⟨g, off + j * 6 + k, none⟩ = some c) :
   ∀ (j : Nat) (u : Value), (ndCells l)[j]? = some u -> w.cell? ((⟨g, off, none⟩ : Addr).add j) = some u := by
 intro j u hu
 have hj := (List.getElem?_eq_some_iff.1 hu).1
 rw [ndCells_len] at hj
 have hq : j / 6 < l.length := by omega
 have hn : l[j / 6]? = some l[j / 6] := List.getElem?_eq_getElem hq
 have hr := nd_get hn (j % 6) (by omega)
 rw [show j / 6 * 6 + j % 6 = j from by omega, hu] at hr
 have := h _ _ hn (j % 6) u hr.symm
 rw [add_plain, <- this]
 congr 2
 omega
def InSlice (v : Value) : Prop := v = .slice none 0 0 \/ ∃ a n c, v = .slice (some a) n c
theorem newNd26 (w : World) (n : Nd) : ∀ (j : Nat) (u : Value), n.cells[j]? = some u -> (w.alloc (.cells #[.int .i64 n.depth, .int .i64 n.kind, .string n.name, .int .i64 n.num, .int .i64 n.op, .int .i64 n.at_] 26)).cell? ((⟨w.heap.size, 0, none⟩ : Addr).add j) = some u := newNd w n
theorem lent_any (l : List Nd) (hl : (l.length + 1) * 56 <= 140737488355328) (v : Value) (w : World) (hv : NodesAt w v l) (hs : InSlice v) :
   Calls Tryd.prog 5 #[v] w fun e w' => ∃ v', e = .returned v' /\ w'.ownsRow w.heap.size 26 6 v' (l ++ [roomNd]).length (ndCells (l ++ [roomNd])) /\ Kin w w' := by
 obtain ⟨ti, hi, hz0, hz1, hz2⟩ := info_parts info50
 have e1 : ndCells (l ++ [roomNd]) = ndCells l ++ roomNd.cells := by simp [ndCells]
 have e2 : (l ++ [roomNd]).length = l.length + 1 := by simp
 rw [e1, e2]
 clear e1 e2
 rcases hs with rfl | ⟨a, n, c, rfl⟩
 · have hl0 : l = [] := by
     obtain ⟨b', c', hv1, _, _⟩ := hv
     simp only [Value.slice.injEq] at hv1
     exact List.eq_nil_of_length_eq_zero hv1.2.1.symm
   subst hl0
   clear hv
   go_enter Tryd.func5, Tryd.ntmps5
   go_wp2_with (first | (at_builtin; refine wpList_append_own_none rfl (.tmp 4) (.tmp 5) 22 rfl w.heap.size 26 ti 6 Tryd.underlying22 hi (.slice none 0 0) 0 [] rfl (World.ownsRow_nil _ _ _ _) rfl ?_) | (at_builtin; refine wpList_append_own _ rfl (.tmp 7) (.tmp 9) 22 rfl w.heap.size 26 ti _ 6 56 Tryd.underlying22 hi hz0 hz1 hz2 rfl (by decide) (.slice none 0 0) 0 [] rfl (World.ownsRow_nil _ _ _ _) ⟨_, 0, none⟩ 1 1 roomNd.cells rfl rfl (newNd _ roomNd) (cellNd _) (by decide) (by decide) (by simp) ?_; intro v1 w1 hown1 hgrow1 _))
   go_ret
   exact ⟨_, rfl, by simpa [ndCells] using hown1, ((Kin.refl w).alloc _).grownK hgrow1 (fun kk hkk => by cases hkk)⟩
 · obtain ⟨b', c', hv1, hcap, hne⟩ := hv
   simp only [Value.slice.injEq] at hv1
   obtain ⟨rfl, rfl, rfl⟩ := hv1
   have hcells : ∀ (j : Nat) (u : Value), (ndCells l)[j]? = some u -> w.cell? (a.add j) = some u := by
     by_cases h0 : l = []
     · subst h0
       intro j u hu
       simp [ndCells] at hu
     · obtain ⟨g, off, hb, hc⟩ := hne h0
       cases hb
       exact flat_cells hc
   clear hne
   go_enter Tryd.func5, Tryd.ntmps5
   go_wp2_with (first | (at_builtin; refine wpList_append_own _ rfl (.tmp 4) (.tmp 5) 22 rfl w.heap.size 26 ti _ 6 56 Tryd.underlying22 hi hz0 hz1 hz2 rfl (by decide) (.slice none 0 0) 0 [] rfl (World.ownsRow_nil _ _ _ _) a l.length c (ndCells l) rfl (ndCells_len l) hcells (ndCells_one l) (by unfold maxLen; omega) (by omega) (Nat.le_refl _) ?_; intro v1 w1 hown1 hgrow1 _; have K1 : Kin w w1 := (Kin.refl w).grownK hgrow1 (fun kk hkk => by cases hkk); rw [Nat.zero_add, List.nil_append] at hown1) | (at_builtin; refine wpList_append_own _ rfl (.tmp 7) (.tmp 9) 22 rfl w.heap.size 26 ti _ 6 56 Tryd.underlying22 hi hz0 hz1 hz2 rfl (by decide) v1 l.length (ndCells l) rfl (hown1.alloc _) ⟨_, 0, none⟩ 1 1 roomNd.cells rfl rfl (newNd _ roomNd) (cellNd _) (by unfold maxLen; omega) (by omega) (Nat.le_trans K1.size (by simp)) ?_; intro v2 w2 hown2 hgrow2 _))
   go_ret
   exact ⟨_, rfl, hown2, (K1.alloc _).grownK hgrow2 (fun kk hkk => (hown1.lt kk hkk).1)⟩
end Go.Proofs.YtonmcakdofbjiaaDoor
namespace Go.Proofs.YtonmcakdofbjiaaDoor
open Go.RowKit
theorem NodesAt.front {w : World} {g n cap : Nat} {l m : List Nd} (h : NodesAt w (.slice (some ⟨g, 0, none⟩) n cap) (l ++ m)) : NodesAt w (.slice (some ⟨g, 0, none⟩) l.length cap) l := by
 obtain ⟨b', c', hv, hcap, hne⟩ := h
 simp only [Value.slice.injEq] at hv
 obtain ⟨rfl, _, rfl⟩ := hv
 rw [List.length_append] at hcap
 refine ⟨_, _, rfl, by omega, fun hl => ?_⟩
 obtain ⟨g', off, hb, hc⟩ := hne (by simp [hl])
 cases hb
 refine ⟨g, 0, rfl, fun j x hx => hc j x ?_⟩
 rw [List.getElem?_append_left (List.getElem?_eq_some_iff.1 hx).1]
 exact hx
theorem whole_any (l : List Nd) (hlen : l.length < 9223372036854775807) (g cap : Nat) (v : Value) (w : World) (h1 : NodesAt w (.slice (some ⟨g, 0, none⟩) (l.length + 1) cap) (l ++ [roomNd])) (h2 : NodesAt w v l) :
   Calls Tryd.prog 8 #[.slice (some ⟨g, 0, none⟩) (l.length + 1) cap, v] w fun e w' => e = .returned (.bool true) /\ Kin w w' := by
 have HS := Lib.hid (same_any l l (by omega) (by omega) _ _ w h1.front h2)
 rw [decide_eq_true rfl] at HS
 have hcells : ∀ (k : Nat) (c : Value), roomNd.cells[k]? = some c -> w.cell? ⟨g, l.length * 6 + k, none⟩ = some c := by
   obtain ⟨b', c', hv, hcap, hne⟩ := h1
   obtain ⟨g', off, hb, hc⟩ := hne (by simp)
   simp only [Value.slice.injEq] at hv
   obtain ⟨rfl, _, rfl⟩ := hv
   cases hb
   intro k c hk
   have := hc l.length roomNd (by simp) k c hk
   rw [Nat.zero_add] at this
   exact this
 have HC : Hid (∀ w', Kin w w' -> w'.cell? ⟨g, l.length * 6, none⟩ = some (.int .i64 (-7)) /\ w'.cell? ⟨g, l.length * 6 + 1, none⟩ = some (.int .i64 0) /\ w'.cell? ⟨g, l.length * 6 + 2, none⟩ = some (.string { data := #[114, 111, 111, 109] }) /\ w'.cell? ⟨g, l.length * 6 + 3, none⟩ = some (.int .i64 0) /\ w'.cell? ⟨g, l.length * 6 + 4, none⟩ = some (.int .i64 0) /\ w'.cell? ⟨g, l.length * 6 + 5, none⟩ = some (.int .i64 0)) := Lib.hid (fun w' K => by
   have key : ∀ (k : Nat) (c : Value), roomNd.cells[k]? = some c -> w'.cell? ⟨g, l.length * 6 + k, none⟩ = some c := fun k c hk => (K.cell (World.block_lt_of_cell? w _ (hcells k c hk))).trans (hcells k c hk)
   exact ⟨key 0 _ rfl, key 1 _ rfl, key 2 _ rfl, key 3 _ rfl, key 4 _ rfl, key 5 _ rfl⟩)
 have hcap : l.length + 1 <= cap := by
   obtain ⟨b', c', hv, hcap, hne⟩ := h1
   simp only [Value.slice.injEq] at hv
   obtain ⟨_, _, rfl⟩ := hv
   simpa using hcap
 obtain ⟨b2, cap2, rfl, hcap2, hne2⟩ := h2
 clear hcells h1 hne2
 have he := eq50 (-7) 0 { data := #[114, 111, 111, 109] } 0 0 0 (-7) 0 { data := #[114, 111, 111, 109] } 0 0 0
 rw [decide_eq_true rfl] at he
 have hgd := guard50
 go_enter Tryd.func8, Tryd.ntmps8
 go_wp2_with (go_at_call 11; with_reducible refine HS.out.mono ?_; rintro e w1 ⟨rfl, hk⟩; obtain ⟨r0, r1, r2, r3, r4, r5⟩ := HC.out w1 hk; clear HC)
 go_ret
 exact ⟨rfl, hk⟩
end Go.Proofs.YtonmcakdofbjiaaDoor
namespace Go.Proofs.YtonmcakdofbjiaaDoor
open Go.RowKit
theorem rwants_any (x : Int) (w : World) : Calls Tryd.prog 14 #[.int .i64 x] w fun e w' => e = .returned (.int .i64 (rwants x)) /\ w' = w := by
 go_enter Tryd.func14, Tryd.ntmps14
 go_wp2
 all_goals
   go_ret
   simp_all [rwants]
theorem risExpr_any (x : Int) (w : World) : Calls Tryd.prog 29 #[.int .i64 x] w fun e w' => e = .returned (.bool (isExprB x)) /\ w' = w := by
 go_enter Tryd.func29, Tryd.ntmps29
 go_wp2
 all_goals
   go_ret
   refine ⟨?_, rfl⟩
   show Ending.returned (.bool _) = Ending.returned (.bool _)
   refine congrArg _ (congrArg _ ?_)
   rw [Bool.eq_iff_iff]
   simp [isExprB]
   try omega
theorem risStmt_any (x : Int) (w : World) : Calls Tryd.prog 16 #[.int .i64 x] w fun e w' => e = .returned (.bool (isStmtB x)) /\ w' = w := by
 go_enter Tryd.func16, Tryd.ntmps16
 go_wp2
 all_goals
   go_ret
   refine ⟨?_, rfl⟩
   show Ending.returned (.bool _) = Ending.returned (.bool _)
   refine congrArg _ (congrArg _ ?_)
   rw [Bool.eq_iff_iff]
   simp [isStmtB]
   try omega
end Go.Proofs.YtonmcakdofbjiaaDoor
namespace Go.Proofs.YtonmcakdofbjiaaDoor
open Go.RowKit
def kws : List ByteArray := [{ data := #[118, 97, 114] }, { data := #[97, 114, 114, 97, 121] }, { data := #[105, 110, 112, 117, 116] }, { data := #[97, 115, 115, 101, 114, 116] }, { data := #[115, 107, 105, 112] }, { data := #[105, 102] }, { data := #[101, 108, 115, 101] }, { data := #[119, 104, 105, 108, 101] }, { data := #[116, 114, 117, 101] }, { data := #[102, 97, 108, 115, 101] }]
def kwCells : Array Value := #[.string { data := #[118, 97, 114] }, .string { data := #[97, 114, 114, 97, 121] }, .string { data := #[105, 110, 112, 117, 116] }, .string { data := #[97, 115, 115, 101, 114, 116] }, .string { data := #[115, 107, 105, 112] }, .string { data := #[105, 102] }, .string { data := #[101, 108, 115, 101] }, .string { data := #[119, 104, 105, 108, 101] }, .string { data := #[116, 114, 117, 101] }, .string { data := #[102, 97, 108, 115, 101] }]
def kwAt (k : Nat) : ByteArray := kws[k]?.getD { data := #[] }
theorem kw_cells : ∀ k, k < 10 -> kwCells[k]? = some (.string (kwAt k))
 | 0, _ => rfl
 | 1, _ => rfl
 | 2, _ => rfl
 | 3, _ => rfl
 | 4, _ => rfl
 | 5, _ => rfl
 | 6, _ => rfl
 | 7, _ => rfl
 | 8, _ => rfl
 | 9, _ => rfl
 | n + 10, h => absurd h (by omega)
theorem reserved_kws (s : ByteArray) : reservedB s = (List.range 10).any fun k => ((kwAt k).toList == s.toList) := by
 have e0 : (kwAt 0).toList = [118, 97, 114] := by kernel_rfl
 have e1 : (kwAt 1).toList = [97, 114, 114, 97, 121] := by kernel_rfl
 have e2 : (kwAt 2).toList = [105, 110, 112, 117, 116] := by kernel_rfl
 have e3 : (kwAt 3).toList = [97, 115, 115, 101, 114, 116] := by kernel_rfl
 have e4 : (kwAt 4).toList = [115, 107, 105, 112] := by kernel_rfl
 have e5 : (kwAt 5).toList = [105, 102] := by kernel_rfl
 have e6 : (kwAt 6).toList = [101, 108, 115, 101] := by kernel_rfl
 have e7 : (kwAt 7).toList = [119, 104, 105, 108, 101] := by kernel_rfl
 have e8 : (kwAt 8).toList = [116, 114, 117, 101] := by kernel_rfl
 have e9 : (kwAt 9).toList = [102, 97, 108, 115, 101] := by kernel_rfl
 have hr : List.range 10 = [0, 1, 2, 3, 4, 5, 6, 7, 8, 9] := by decide
 rw [hr, Bool.eq_iff_iff]
 simp only [reservedB, List.any_cons, List.any_nil, e0, e1, e2, e3, e4, e5, e6, e7, e8, e9, Bool.or_eq_true, beq_iff_eq, Bool.or_false]
 simp only [eq_comm]
theorem kw_cell (w : World) (k : Nat) (hk : k < 10) : (w.alloc (.cells kwCells 9)).cell? ⟨w.heap.size, k, none⟩ = some (.string (kwAt k)) := by
 rw [World.cell?_alloc_at _ _ _ _ rfl]
 exact kw_cells k hk
theorem keyword_any (s : ByteArray) (w : World) : Calls Tryd.prog 41 #[.string s] w fun e w' => e = .returned (.bool (reservedB s)) /\ Kin w w' := by
 have K1 := Lib.hid ((Kin.refl w).alloc (.cells kwCells 9))
 have HC := Lib.hid (kw_cell w)
 unfold kwCells at K1 HC
 generalize hR : reservedB s = R
 have HR := Lib.hid hR
 clear hR
 go_enter Tryd.func41, Tryd.ntmps41
 go_wp2
 go_loopg [4] 10 (fun g x wq => ∃ k : Nat, x = .int .i64 k /\ k <= 10 /\ g = 10 - k /\ (∀ j, j < k -> ((kwAt j).toList == s.toList) = false) /\ wq = w.alloc (.cells kwCells 9))
 case atStart => exact ⟨0, rfl, by omega, rfl, fun j hj => by omega, rfl⟩
 case round =>
   obtain ⟨k, rfl, hk, hg, hn, rfl⟩ := hrel
   have HG := Lib.hid hg
   have HN := Lib.hid hn
   clear hg hn
   unfold kwCells
   by_cases hlt : k < 10
   · have hc := HC.out k hlt
     generalize hkw : kwAt k = t at hc
     have HKW := Lib.hid hkw
     clear hkw
     by_cases he : (t.toList == s.toList) = true
     · have hRt : R = true := by
         rw [<- HR.out, reserved_kws, List.any_eq_true]
         exact ⟨k, List.mem_range.2 hlt, by rw [HKW.out]; exact he⟩
       subst hRt
       go_wp2_with fail
       go_ret
       exact ⟨rfl, K1.out⟩
     · have he : (t.toList == s.toList) = false := by simpa using he
       go_wp2_with fail
       go_roundg (10 - (k + 1))
       case measure => have := HG.out; omega
       case rel =>
         refine ⟨k + 1, by simp, by omega, rfl, fun j hj => ?_, rfl⟩
         by_cases e : j = k
         · subst e; rw [HKW.out]; exact he
         · exact HN.out j (by omega)
   · have hk10 : k = 10 := by omega
     subst hk10
     have hRf : R = false := by
       rw [<- HR.out, reserved_kws, List.any_eq_false]
       intro j hj
       rw [HN.out j (List.mem_range.1 hj)]
       simp
     subst hRf
     go_wp2_with fail
     go_ret
     exact ⟨rfl, K1.out⟩
end Go.Proofs.YtonmcakdofbjiaaDoor
namespace Go.Proofs.YtonmcakdofbjiaaDoor
open Go.RowKit
theorem rletter_any (x : Int) (w : World) : Calls Tryd.prog 40 #[.int .u8 x] w fun e w' => e = .returned (.bool (isLetter x)) /\ w' = w := by
 go_enter Tryd.func40, Tryd.ntmps40
 go_wp2
 all_goals
   go_ret
   refine ⟨?_, rfl⟩
   show Ending.returned (.bool _) = Ending.returned (.bool _)
   refine congrArg _ (congrArg _ ?_)
   rw [Bool.eq_iff_iff]
   simp [isLetter]
   try omega
theorem rdigit_any (x : Int) (w : World) : Calls Tryd.prog 42 #[.int .u8 x] w fun e w' => e = .returned (.bool (isDigit x)) /\ w' = w := by
 go_enter Tryd.func42, Tryd.ntmps42
 go_wp2
 all_goals
   go_ret
   refine ⟨?_, rfl⟩
   show Ending.returned (.bool _) = Ending.returned (.bool _)
   refine congrArg _ (congrArg _ ?_)
   rw [Bool.eq_iff_iff]
   simp [isDigit]
   try omega
theorem rname_any (s : ByteArray) (hs : s.size <= 140737488355328) (w : World) : Calls Tryd.prog 28 #[.string s] w fun e w' => e = .returned (.bool (nameableB s)) /\ Kin w w' := by
 by_cases h0 : s.size = 0
 · have hr : nameableB s = false := by simp [nameableB, h0]
   rw [hr]
   clear hr
   go_enter Tryd.func28, Tryd.ntmps28
   go_wp2_with fail
   go_ret
   exact ⟨rfl, Kin.refl _⟩
 · have h0 : 0 < s.size := by omega
   by_cases h16 : 16 < s.size
   · have hr : nameableB s = false := by
       have : ¬ s.size <= 16 := by omega
       simp [nameableB, this]
     rw [hr]
     clear hr
     go_enter Tryd.func28, Tryd.ntmps28
     go_wp2_with fail
     go_ret
     exact ⟨rfl, Kin.refl _⟩
   · cases hl : isLetter (s[0]).toNat with
     | false =>
       have hr : nameableB s = false := nameable_no h0 (by rw [okAt_eq h0, hl]; simp)
       rw [hr]
       clear hr
       go_enter Tryd.func28, Tryd.ntmps28
       go_wp2_with (go_at_call 40; with_reducible refine (rletter_any _ _).mono ?_; rintro e w' ⟨rfl, rfl⟩)
       go_ret
       exact ⟨rfl, Kin.refl _⟩
     | true =>
       have HK := Lib.hid (keyword_any s w)
       cases hk : reservedB s with
       | true =>
         have hr : nameableB s = false := by simp [nameableB, hk]
         rw [hr]
         clear hr
         rw [hk] at HK
         go_enter Tryd.func28, Tryd.ntmps28
         go_wp2_with (first | (go_at_call 40; with_reducible refine (rletter_any _ _).mono ?_; rintro e w' ⟨rfl, rfl⟩) | (go_at_call 41; with_reducible refine HK.out.mono ?_; rintro e w' ⟨rfl, hk1⟩))
         go_ret
         exact ⟨rfl, hk1⟩
       | false =>
         rw [hk] at HK
         have HKF := Lib.hid hk
         have HS := Lib.hid hs
         clear hk
         generalize hR : nameableB s = R
         have HR := Lib.hid hR
         clear hR
         go_enter Tryd.func28, Tryd.ntmps28
         go_wp2_with (first | (go_at_call 40; with_reducible refine (rletter_any _ _).mono ?_; rintro e w' ⟨rfl, rfl⟩) | (go_at_call 41; with_reducible refine HK.out.mono ?_; rintro e w1 ⟨rfl, hk1⟩))
         have HK1 := Lib.hid hk1
         clear hk1
         go_loopg [3] s.size (fun g x wq => ∃ k : Nat, x = .int .i64 k /\ k <= s.size /\ g = s.size - k /\ (∀ j, j < k -> okAt s j = true) /\ wq = w1)
         case atStart => exact ⟨0, rfl, by omega, rfl, fun j hj => by omega, rfl⟩
         case round =>
           obtain ⟨k, rfl, hkk, hg, hn, rfl⟩ := hrel
           have HG := Lib.hid hg
           have HN := Lib.hid hn
           clear hg hn
           by_cases hlt : k < s.size
           · cases hlk : isLetter (s[k]).toNat with
             | true =>
               go_wp2_with (go_at_call 40; with_reducible refine (rletter_any _ _).mono ?_; rintro e w' ⟨rfl, rfl⟩)
               go_roundg (s.size - (k + 1))
               case measure => have := HG.out; omega
               case rel =>
                 refine ⟨k + 1, by simp, by omega, rfl, fun j hj => ?_, rfl⟩
                 by_cases e : j = k
                 · subst e; rw [okAt_eq hlt, hlk]; rfl
                 · exact HN.out j (by omega)
             | false =>
               cases hdk : isDigit (s[k]).toNat with
               | true =>
                 have hk0 : k ≠ 0 := by
                   rintro rfl
                   rw [hl] at hlk
                   cases hlk
                 go_wp2_with (first | (go_at_call 40; with_reducible refine (rletter_any _ _).mono ?_; rintro e w' ⟨rfl, rfl⟩) | (go_at_call 42; with_reducible refine (rdigit_any _ _).mono ?_; rintro e w' ⟨rfl, rfl⟩))
                 go_roundg (s.size - (k + 1))
                 case measure => have := HG.out; omega
                 case rel =>
                   refine ⟨k + 1, by simp, by omega, rfl, fun j hj => ?_, rfl⟩
                   by_cases e : j = k
                   · subst e; rw [okAt_eq hlt, hdk]; simp [hk0]
                   · exact HN.out j (by omega)
               | false =>
                 have hRf : R = false := by
                   rw [<- HR.out]
                   exact nameable_no hlt (by rw [okAt_eq hlt, hlk, hdk]; simp)
                 subst hRf
                 go_wp2_with (first | (go_at_call 40; with_reducible refine (rletter_any _ _).mono ?_; rintro e w' ⟨rfl, rfl⟩) | (go_at_call 42; with_reducible refine (rdigit_any _ _).mono ?_; rintro e w' ⟨rfl, rfl⟩))
                 go_ret
                 exact ⟨rfl, HK1.out⟩
           · have hRt : R = true := by
               rw [<- HR.out, nameable_all (fun j hj => HN.out j (by omega)), HKF.out]
               simp
               omega
             subst hRt
             go_wp2_with fail
             go_ret
             exact ⟨rfl, HK1.out⟩
end Go.Proofs.YtonmcakdofbjiaaDoor
namespace Go.Proofs.YtonmcakdofbjiaaDoor
open Go.RowKit
theorem rfields_any (n : Nd) (hs : n.name.size <= 140737488355328) (w : World) : Calls Tryd.prog 15 #[.agg n.cells.toArray] w fun e w' => e = .returned (.bool (fieldsB n)) /\ Kin w w' := by
 obtain ⟨depth, kind, name, num, op, at_⟩ := n
 have hn := fun w => rname_any name hs w
 simp only [Nd.cells]
 have K1 := Lib.hid ((Kin.refl w).alloc (.cells #[.int .i64 depth, .int .i64 kind, .string name, .int .i64 num, .int .i64 op, .int .i64 at_] 26))
 generalize hb : nameableB name = b at hn
 have HB := Lib.hid hb
 have HN := Lib.hid hn
 clear hb hn hs
 by_cases h0 : kind = 0
 · subst h0
   have hr : fieldsB ⟨depth, 0, name, num, op, at_⟩ = (b && (decide (num = 0) && decide (op = 0))) := by simp [fieldsB, HB.out, Bool.and_assoc]
   rw [hr]
   clear hr
   cases b
   · go_enter Tryd.func15, Tryd.ntmps15
     go_wp2_with (go_at_call 28; with_reducible refine (HN.out _).mono ?_; rintro e w1 ⟨rfl, hk1⟩; have c3 : w1.cell? ⟨w.heap.size, 3, none⟩ = some (.int .i64 num) := (hk1.cell (by simp)).trans (by simp [go_sem]))
     all_goals
       go_ret
       refine ⟨?_, ((Kin.refl w).alloc _).trans hk1⟩
       first | rfl | (simp_all [beq_dec]; done) | (simp_all [beq_dec]; omega)
   · go_enter Tryd.func15, Tryd.ntmps15
     go_wp2_with (go_at_call 28; with_reducible refine (HN.out _).mono ?_; rintro e w1 ⟨rfl, hk1⟩; have c3 : w1.cell? ⟨w.heap.size, 3, none⟩ = some (.int .i64 num) := (hk1.cell (by simp)).trans (by simp [go_sem]))
     all_goals
       go_ret
       refine ⟨?_, ((Kin.refl w).alloc _).trans hk1⟩
       first | rfl | (simp_all [beq_dec]; done) | (simp_all [beq_dec]; omega)
 by_cases h1 : kind = 1
 · subst h1
   have hr : fieldsB ⟨depth, 1, name, num, op, at_⟩ = (b && (decide (0 <= num) && decide (op = 0))) := by simp [fieldsB, HB.out, Bool.and_assoc]
   rw [hr]
   clear hr
   cases b
   · go_enter Tryd.func15, Tryd.ntmps15
     go_wp2_with (go_at_call 28; with_reducible refine (HN.out _).mono ?_; rintro e w1 ⟨rfl, hk1⟩; have c3 : w1.cell? ⟨w.heap.size, 3, none⟩ = some (.int .i64 num) := (hk1.cell (by simp)).trans (by simp [go_sem]))
     all_goals
       go_ret
       refine ⟨?_, ((Kin.refl w).alloc _).trans hk1⟩
       first | rfl | (simp_all [beq_dec]; done) | (simp_all [beq_dec]; omega)
   · go_enter Tryd.func15, Tryd.ntmps15
     go_wp2_with (go_at_call 28; with_reducible refine (HN.out _).mono ?_; rintro e w1 ⟨rfl, hk1⟩; have c3 : w1.cell? ⟨w.heap.size, 3, none⟩ = some (.int .i64 num) := (hk1.cell (by simp)).trans (by simp [go_sem]))
     all_goals
       go_ret
       refine ⟨?_, ((Kin.refl w).alloc _).trans hk1⟩
       first | rfl | (simp_all [beq_dec]; done) | (simp_all [beq_dec]; omega)
 by_cases h2 : kind = 2
 · subst h2
   have hr : fieldsB ⟨depth, 2, name, num, op, at_⟩ = (b && (decide (num = 0) && decide (op = 0))) := by simp [fieldsB, HB.out, Bool.and_assoc]
   rw [hr]
   clear hr
   cases b
   · go_enter Tryd.func15, Tryd.ntmps15
     go_wp2_with (go_at_call 28; with_reducible refine (HN.out _).mono ?_; rintro e w1 ⟨rfl, hk1⟩; have c3 : w1.cell? ⟨w.heap.size, 3, none⟩ = some (.int .i64 num) := (hk1.cell (by simp)).trans (by simp [go_sem]))
     all_goals
       go_ret
       refine ⟨?_, ((Kin.refl w).alloc _).trans hk1⟩
       first | rfl | (simp_all [beq_dec]; done) | (simp_all [beq_dec]; omega)
   · go_enter Tryd.func15, Tryd.ntmps15
     go_wp2_with (go_at_call 28; with_reducible refine (HN.out _).mono ?_; rintro e w1 ⟨rfl, hk1⟩; have c3 : w1.cell? ⟨w.heap.size, 3, none⟩ = some (.int .i64 num) := (hk1.cell (by simp)).trans (by simp [go_sem]))
     all_goals
       go_ret
       refine ⟨?_, ((Kin.refl w).alloc _).trans hk1⟩
       first | rfl | (simp_all [beq_dec]; done) | (simp_all [beq_dec]; omega)
 by_cases h3 : kind = 3
 · subst h3
   have hr : fieldsB ⟨depth, 3, name, num, op, at_⟩ = (b && (decide (num = 0) && decide (op = 0))) := by simp [fieldsB, HB.out, Bool.and_assoc]
   rw [hr]
   clear hr
   cases b
   · go_enter Tryd.func15, Tryd.ntmps15
     go_wp2_with (go_at_call 28; with_reducible refine (HN.out _).mono ?_; rintro e w1 ⟨rfl, hk1⟩; have c3 : w1.cell? ⟨w.heap.size, 3, none⟩ = some (.int .i64 num) := (hk1.cell (by simp)).trans (by simp [go_sem]))
     all_goals
       go_ret
       refine ⟨?_, ((Kin.refl w).alloc _).trans hk1⟩
       first | rfl | (simp_all [beq_dec]; done) | (simp_all [beq_dec]; omega)
   · go_enter Tryd.func15, Tryd.ntmps15
     go_wp2_with (go_at_call 28; with_reducible refine (HN.out _).mono ?_; rintro e w1 ⟨rfl, hk1⟩; have c3 : w1.cell? ⟨w.heap.size, 3, none⟩ = some (.int .i64 num) := (hk1.cell (by simp)).trans (by simp [go_sem]))
     all_goals
       go_ret
       refine ⟨?_, ((Kin.refl w).alloc _).trans hk1⟩
       first | rfl | (simp_all [beq_dec]; done) | (simp_all [beq_dec]; omega)
 by_cases h4 : kind = 4
 · subst h4
   have hr : fieldsB ⟨depth, 4, name, num, op, at_⟩ = (b && (decide (num = 0) && decide (op = 0))) := by simp [fieldsB, HB.out, Bool.and_assoc]
   rw [hr]
   clear hr
   cases b
   · go_enter Tryd.func15, Tryd.ntmps15
     go_wp2_with (go_at_call 28; with_reducible refine (HN.out _).mono ?_; rintro e w1 ⟨rfl, hk1⟩; have c3 : w1.cell? ⟨w.heap.size, 3, none⟩ = some (.int .i64 num) := (hk1.cell (by simp)).trans (by simp [go_sem]))
     all_goals
       go_ret
       refine ⟨?_, ((Kin.refl w).alloc _).trans hk1⟩
       first | rfl | (simp_all [beq_dec]; done) | (simp_all [beq_dec]; omega)
   · go_enter Tryd.func15, Tryd.ntmps15
     go_wp2_with (go_at_call 28; with_reducible refine (HN.out _).mono ?_; rintro e w1 ⟨rfl, hk1⟩; have c3 : w1.cell? ⟨w.heap.size, 3, none⟩ = some (.int .i64 num) := (hk1.cell (by simp)).trans (by simp [go_sem]))
     all_goals
       go_ret
       refine ⟨?_, ((Kin.refl w).alloc _).trans hk1⟩
       first | rfl | (simp_all [beq_dec]; done) | (simp_all [beq_dec]; omega)
 by_cases h5 : kind = 5
 · subst h5
   by_cases he : name.toList = []
   · have hr : fieldsB ⟨depth, 5, name, num, op, at_⟩ = (decide (num = 0) && decide (op = 0)) := by simp [fieldsB, he, Bool.and_assoc]
     rw [hr]
     clear hr
     have he1 : (name.toList != []) = false := by simp [he]
     have he2 : (name.toList == []) = true := by simp [he]
     go_enter Tryd.func15, Tryd.ntmps15
     go_wp2_with fail
     all_goals
       go_ret
       refine ⟨?_, (Kin.refl w).alloc _⟩
       first | rfl | (simp_all [beq_dec]; done) | (simp_all [beq_dec]; omega)
   · have hr : fieldsB ⟨depth, 5, name, num, op, at_⟩ = false := by simp [fieldsB, he]
     rw [hr]
     clear hr
     have he1 : (name.toList != []) = true := by simp [he]
     have he2 : (name.toList == []) = false := by simp [he]
     go_enter Tryd.func15, Tryd.ntmps15
     go_wp2_with fail
     all_goals
       go_ret
       refine ⟨?_, (Kin.refl w).alloc _⟩
       first | rfl | (simp_all [beq_dec]; done) | (simp_all [beq_dec]; omega)
 by_cases h6 : kind = 6
 · subst h6
   by_cases he : name.toList = []
   · have hr : fieldsB ⟨depth, 6, name, num, op, at_⟩ = (decide (num = 0) && decide (op = 0)) := by simp [fieldsB, he, Bool.and_assoc]
     rw [hr]
     clear hr
     have he1 : (name.toList != []) = false := by simp [he]
     have he2 : (name.toList == []) = true := by simp [he]
     go_enter Tryd.func15, Tryd.ntmps15
     go_wp2_with fail
     all_goals
       go_ret
       refine ⟨?_, (Kin.refl w).alloc _⟩
       first | rfl | (simp_all [beq_dec]; done) | (simp_all [beq_dec]; omega)
   · have hr : fieldsB ⟨depth, 6, name, num, op, at_⟩ = false := by simp [fieldsB, he]
     rw [hr]
     clear hr
     have he1 : (name.toList != []) = true := by simp [he]
     have he2 : (name.toList == []) = false := by simp [he]
     go_enter Tryd.func15, Tryd.ntmps15
     go_wp2_with fail
     all_goals
       go_ret
       refine ⟨?_, (Kin.refl w).alloc _⟩
       first | rfl | (simp_all [beq_dec]; done) | (simp_all [beq_dec]; omega)
 by_cases h7 : kind = 7
 · subst h7
   by_cases he : name.toList = []
   · have hr : fieldsB ⟨depth, 7, name, num, op, at_⟩ = (decide (num = 0) && decide (op = 0)) := by simp [fieldsB, he, Bool.and_assoc]
     rw [hr]
     clear hr
     have he1 : (name.toList != []) = false := by simp [he]
     have he2 : (name.toList == []) = true := by simp [he]
     go_enter Tryd.func15, Tryd.ntmps15
     go_wp2_with fail
     all_goals
       go_ret
       refine ⟨?_, (Kin.refl w).alloc _⟩
       first | rfl | (simp_all [beq_dec]; done) | (simp_all [beq_dec]; omega)
   · have hr : fieldsB ⟨depth, 7, name, num, op, at_⟩ = false := by simp [fieldsB, he]
     rw [hr]
     clear hr
     have he1 : (name.toList != []) = true := by simp [he]
     have he2 : (name.toList == []) = false := by simp [he]
     go_enter Tryd.func15, Tryd.ntmps15
     go_wp2_with fail
     all_goals
       go_ret
       refine ⟨?_, (Kin.refl w).alloc _⟩
       first | rfl | (simp_all [beq_dec]; done) | (simp_all [beq_dec]; omega)
 by_cases h8 : kind = 8
 · subst h8
   by_cases he : name.toList = []
   · have hr : fieldsB ⟨depth, 8, name, num, op, at_⟩ = (decide (num = 0) && decide (op = 0)) := by simp [fieldsB, he, Bool.and_assoc]
     rw [hr]
     clear hr
     have he1 : (name.toList != []) = false := by simp [he]
     have he2 : (name.toList == []) = true := by simp [he]
     go_enter Tryd.func15, Tryd.ntmps15
     go_wp2_with fail
     all_goals
       go_ret
       refine ⟨?_, (Kin.refl w).alloc _⟩
       first | rfl | (simp_all [beq_dec]; done) | (simp_all [beq_dec]; omega)
   · have hr : fieldsB ⟨depth, 8, name, num, op, at_⟩ = false := by simp [fieldsB, he]
     rw [hr]
     clear hr
     have he1 : (name.toList != []) = true := by simp [he]
     have he2 : (name.toList == []) = false := by simp [he]
     go_enter Tryd.func15, Tryd.ntmps15
     go_wp2_with fail
     all_goals
       go_ret
       refine ⟨?_, (Kin.refl w).alloc _⟩
       first | rfl | (simp_all [beq_dec]; done) | (simp_all [beq_dec]; omega)
 by_cases h9 : kind = 9
 · subst h9
   by_cases he : name.toList = []
   · have hr : fieldsB ⟨depth, 9, name, num, op, at_⟩ = (decide (num = 0) && decide (op = 0)) := by simp [fieldsB, he, Bool.and_assoc]
     rw [hr]
     clear hr
     have he1 : (name.toList != []) = false := by simp [he]
     have he2 : (name.toList == []) = true := by simp [he]
     go_enter Tryd.func15, Tryd.ntmps15
     go_wp2_with fail
     all_goals
       go_ret
       refine ⟨?_, (Kin.refl w).alloc _⟩
       first | rfl | (simp_all [beq_dec]; done) | (simp_all [beq_dec]; omega)
   · have hr : fieldsB ⟨depth, 9, name, num, op, at_⟩ = false := by simp [fieldsB, he]
     rw [hr]
     clear hr
     have he1 : (name.toList != []) = true := by simp [he]
     have he2 : (name.toList == []) = false := by simp [he]
     go_enter Tryd.func15, Tryd.ntmps15
     go_wp2_with fail
     all_goals
       go_ret
       refine ⟨?_, (Kin.refl w).alloc _⟩
       first | rfl | (simp_all [beq_dec]; done) | (simp_all [beq_dec]; omega)
 by_cases h10 : kind = 10
 · subst h10
   by_cases he : name.toList = []
   · have hr : fieldsB ⟨depth, 10, name, num, op, at_⟩ = (decide (0 <= num) && decide (op = 0)) := by simp [fieldsB, he, Bool.and_assoc]
     rw [hr]
     clear hr
     have he1 : (name.toList != []) = false := by simp [he]
     have he2 : (name.toList == []) = true := by simp [he]
     go_enter Tryd.func15, Tryd.ntmps15
     go_wp2_with fail
     all_goals
       go_ret
       refine ⟨?_, (Kin.refl w).alloc _⟩
       first | rfl | (simp_all [beq_dec]; done) | (simp_all [beq_dec]; omega)
   · have hr : fieldsB ⟨depth, 10, name, num, op, at_⟩ = false := by simp [fieldsB, he]
     rw [hr]
     clear hr
     have he1 : (name.toList != []) = true := by simp [he]
     have he2 : (name.toList == []) = false := by simp [he]
     go_enter Tryd.func15, Tryd.ntmps15
     go_wp2_with fail
     all_goals
       go_ret
       refine ⟨?_, (Kin.refl w).alloc _⟩
       first | rfl | (simp_all [beq_dec]; done) | (simp_all [beq_dec]; omega)
 by_cases h11 : kind = 11
 · subst h11
   by_cases he : name.toList = []
   · have hr : fieldsB ⟨depth, 11, name, num, op, at_⟩ = ((decide (num = 0) || decide (num = 1)) && decide (op = 0)) := by simp [fieldsB, he, Bool.and_assoc]
     rw [hr]
     clear hr
     have he1 : (name.toList != []) = false := by simp [he]
     have he2 : (name.toList == []) = true := by simp [he]
     go_enter Tryd.func15, Tryd.ntmps15
     go_wp2_with fail
     all_goals
       go_ret
       refine ⟨?_, (Kin.refl w).alloc _⟩
       first | rfl | (simp_all [beq_dec]; done) | (simp_all [beq_dec]; omega)
   · have hr : fieldsB ⟨depth, 11, name, num, op, at_⟩ = false := by simp [fieldsB, he]
     rw [hr]
     clear hr
     have he1 : (name.toList != []) = true := by simp [he]
     have he2 : (name.toList == []) = false := by simp [he]
     go_enter Tryd.func15, Tryd.ntmps15
     go_wp2_with fail
     all_goals
       go_ret
       refine ⟨?_, (Kin.refl w).alloc _⟩
       first | rfl | (simp_all [beq_dec]; done) | (simp_all [beq_dec]; omega)
 by_cases h12 : kind = 12
 · subst h12
   have hr : fieldsB ⟨depth, 12, name, num, op, at_⟩ = (b && (decide (num = 0) && decide (op = 0))) := by simp [fieldsB, HB.out, Bool.and_assoc]
   rw [hr]
   clear hr
   cases b
   · go_enter Tryd.func15, Tryd.ntmps15
     go_wp2_with (go_at_call 28; with_reducible refine (HN.out _).mono ?_; rintro e w1 ⟨rfl, hk1⟩; have c3 : w1.cell? ⟨w.heap.size, 3, none⟩ = some (.int .i64 num) := (hk1.cell (by simp)).trans (by simp [go_sem]))
     all_goals
       go_ret
       refine ⟨?_, ((Kin.refl w).alloc _).trans hk1⟩
       first | rfl | (simp_all [beq_dec]; done) | (simp_all [beq_dec]; omega)
   · go_enter Tryd.func15, Tryd.ntmps15
     go_wp2_with (go_at_call 28; with_reducible refine (HN.out _).mono ?_; rintro e w1 ⟨rfl, hk1⟩; have c3 : w1.cell? ⟨w.heap.size, 3, none⟩ = some (.int .i64 num) := (hk1.cell (by simp)).trans (by simp [go_sem]))
     all_goals
       go_ret
       refine ⟨?_, ((Kin.refl w).alloc _).trans hk1⟩
       first | rfl | (simp_all [beq_dec]; done) | (simp_all [beq_dec]; omega)
 by_cases h13 : kind = 13
 · subst h13
   have hr : fieldsB ⟨depth, 13, name, num, op, at_⟩ = (b && (decide (num = 0) && decide (op = 0))) := by simp [fieldsB, HB.out, Bool.and_assoc]
   rw [hr]
   clear hr
   cases b
   · go_enter Tryd.func15, Tryd.ntmps15
     go_wp2_with (go_at_call 28; with_reducible refine (HN.out _).mono ?_; rintro e w1 ⟨rfl, hk1⟩; have c3 : w1.cell? ⟨w.heap.size, 3, none⟩ = some (.int .i64 num) := (hk1.cell (by simp)).trans (by simp [go_sem]))
     all_goals
       go_ret
       refine ⟨?_, ((Kin.refl w).alloc _).trans hk1⟩
       first | rfl | (simp_all [beq_dec]; done) | (simp_all [beq_dec]; omega)
   · go_enter Tryd.func15, Tryd.ntmps15
     go_wp2_with (go_at_call 28; with_reducible refine (HN.out _).mono ?_; rintro e w1 ⟨rfl, hk1⟩; have c3 : w1.cell? ⟨w.heap.size, 3, none⟩ = some (.int .i64 num) := (hk1.cell (by simp)).trans (by simp [go_sem]))
     all_goals
       go_ret
       refine ⟨?_, ((Kin.refl w).alloc _).trans hk1⟩
       first | rfl | (simp_all [beq_dec]; done) | (simp_all [beq_dec]; omega)
 by_cases h14 : kind = 14
 · subst h14
   by_cases he : name.toList = []
   · have hr : fieldsB ⟨depth, 14, name, num, op, at_⟩ = (decide (num = 0) && (decide (op = 1) || decide (op = 2))) := by simp [fieldsB, he, Bool.and_assoc]
     rw [hr]
     clear hr
     have he1 : (name.toList != []) = false := by simp [he]
     have he2 : (name.toList == []) = true := by simp [he]
     go_enter Tryd.func15, Tryd.ntmps15
     go_wp2_with fail
     all_goals
       go_ret
       refine ⟨?_, (Kin.refl w).alloc _⟩
       first | rfl | (simp_all [beq_dec]; done) | (simp_all [beq_dec]; omega)
   · have hr : fieldsB ⟨depth, 14, name, num, op, at_⟩ = false := by simp [fieldsB, he]
     rw [hr]
     clear hr
     have he1 : (name.toList != []) = true := by simp [he]
     have he2 : (name.toList == []) = false := by simp [he]
     go_enter Tryd.func15, Tryd.ntmps15
     go_wp2_with fail
     all_goals
       go_ret
       refine ⟨?_, (Kin.refl w).alloc _⟩
       first | rfl | (simp_all [beq_dec]; done) | (simp_all [beq_dec]; omega)
 by_cases h15 : kind = 15
 · subst h15
   by_cases he : name.toList = []
   · have hr : fieldsB ⟨depth, 15, name, num, op, at_⟩ = (decide (num = 0) && (decide (3 <= op) && decide (op <= 15))) := by simp [fieldsB, he, Bool.and_assoc]
     rw [hr]
     clear hr
     have he1 : (name.toList != []) = false := by simp [he]
     have he2 : (name.toList == []) = true := by simp [he]
     go_enter Tryd.func15, Tryd.ntmps15
     go_wp2_with fail
     all_goals
       go_ret
       refine ⟨?_, (Kin.refl w).alloc _⟩
       first | rfl | (simp_all [beq_dec]; done) | (simp_all [beq_dec]; omega)
   · have hr : fieldsB ⟨depth, 15, name, num, op, at_⟩ = false := by simp [fieldsB, he]
     rw [hr]
     clear hr
     have he1 : (name.toList != []) = true := by simp [he]
     have he2 : (name.toList == []) = false := by simp [he]
     go_enter Tryd.func15, Tryd.ntmps15
     go_wp2_with fail
     all_goals
       go_ret
       refine ⟨?_, (Kin.refl w).alloc _⟩
       first | rfl | (simp_all [beq_dec]; done) | (simp_all [beq_dec]; omega)
 have hr : fieldsB ⟨depth, kind, name, num, op, at_⟩ = false := by simp [fieldsB, h0, h1, h2, h3, h4, h5, h6, h7, h8, h9, h10, h11, h12, h13, h14, h15]
 rw [hr]
 clear hr
 have hout : kind < 0 \/ 15 < kind := by omega
 clear h0 h1 h2 h3 h4 h5 h6 h7 h8 h9 h10 h11 h12 h13 h14 h15
 rcases hout with hlt | hgt
 · go_enter Tryd.func15, Tryd.ntmps15
   go_wp2_with fail
   all_goals
     go_ret
     refine ⟨?_, (Kin.refl w).alloc _⟩
     first | rfl | (simp_all [beq_dec]; done) | (simp_all [beq_dec]; omega)
 · have h00 : ¬ kind < 0 := by omega
   go_enter Tryd.func15, Tryd.ntmps15
   go_wp2_with fail
   all_goals
     go_ret
     refine ⟨?_, (Kin.refl w).alloc _⟩
     first | rfl | (simp_all [beq_dec]; done) | (simp_all [beq_dec]; omega)
end Go.Proofs.YtonmcakdofbjiaaDoor
