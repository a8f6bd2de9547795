/-
  The parts: Cls1 Bad1
-/
import Derived.Test.YtonmcakdofbjiaaGreatDoorW26
import Derived.Test.YtonmcakdofbjiaaGreatDoorRows
import Derived.LaidLaws
import Derived.MakeChecks
import Derived.ProofKit
import Derived.OpenShut
import Derived.LaidMore
import Derived.Lay
import Derived.Test.YtonmcakdofbjiaaGreatDoorW22
set_option linter.unusedVariables false
set_option linter.unusedSimpArgs false
set_option linter.unusedSectionVars false
set_option linter.unnecessarySimpa false
namespace Go.Proofs.YtonmcakdofbjiaaGreatDoor
open Go.ChangeShapes Go.WideShapes Go.ChangeAt Go.RowKit Go.Bsd
set_option maxRecDepth 100000
theorem star253 : "*" ++ "errors.errorString" = "*errors.errorString" := by decide
theorem row253 (u : TypeId) (h : Tryz.prog.typeName? 3 u = some "*errors.errorString") : u = 253 :=
  typeName_ptr_named (nm := "errors.errorString") (by rw [star253]; kernel_rfl) (by kernel_rfl) (by decide) u (by rw [star253]; exact h)
theorem cell_plain {w : World} {a : Addr} {v : Value} (h : w.cell? a = some v) : a = ⟨a.block, a.off, none⟩ := by
  obtain ⟨b, o, s⟩ := a
  cases s with
  | none => rfl
  | some x =>
    exfalso
    unfold World.cell? at h
    split at h <;> simp_all
theorem err_laid {W : World} {n : String} {g : Nat} {cs : Array Value} {fuel : Nat} {text : List UInt8} {p : List MemPlace} (hg : Tryz.prog.globalNamed n = some g)
    (hv : W.var? Tryz.prog n = some cs) (hd : DataW.trod (fun _ => ()) Tryz.prog W 0 (fun _ => true) false fuel 27 cs.toList = some (.iface "*errors.errorString" (.ptr (.agg [.lit (.string text)])), p))
    (hok : ∀ u v, W.cell? ⟨g, 0, none⟩ = some (.iface u v) → Value.okWide Tryz.prog W .any 0 u v) :
    ∃ (a : Addr) (s : ByteArray), W.cell? ⟨g, 0, none⟩ = some (.iface 253 (.pointer (some a))) ∧ cs = #[.iface 253 (.pointer (some a))] ∧ W.cell? a = some (.string s) ∧ s.data.toList = text ∧ p = MemPlace.row a 1 := by
  obtain ⟨l⟩ := cs
  have ok0 : ∀ u v, l = [.iface u v] → Value.okWide Tryz.prog W .any 0 u v := fun u v e => by
    subst e
    exact hok u v (by simpa using World.var?_cell hg hv 0)
  obtain ⟨a, s, rfl, hc, hs, hz, rfl⟩ := errorString_of_trod Tryz.underlying27 row253 Tryz.underlying253 Tryz.underlying255 rfl rfl Tryz.underlying9 (by kernel_rfl) (by kernel_rfl) hd ok0
  exact ⟨a, s, by simpa using World.var?_cell hg hv 0, rfl, hc, hs, rfl⟩
theorem var_heap {W : World} {n : String} {g : Nat} {cs : Array Value} (hg : Tryz.prog.globalNamed n = some g) (hv : W.var? Tryz.prog n = some cs) : ∃ T fz, W.heap[g]? = some (.cells cs T fz) := by
  unfold World.var? at hv
  rw [hg] at hv
  simp only [Option.bind_some] at hv
  split at hv
  · rename_i c T fz h
    cases hv
    exact ⟨T, fz, h⟩
  · cases hv
theorem arr_laid {W : World} {n : String} {g : Nat} {cs : Array Value} {fuel m : Nat} {t e : TypeId} {k : IntKind} {x : DataW Unit × List MemPlace} (hg : Tryz.prog.globalNamed n = some g) (hv : W.var? Tryz.prog n = some cs)
    (ht : Tryz.prog.underlying t = some (.array m e)) (he : Tryz.prog.underlying e = some (.int k)) (hce : Tryz.prog.cellsOf e = 1) (hct : Tryz.prog.cellsOf t = m)
    (hd : DataW.trod (fun _ => ()) Tryz.prog W 0 (fun _ => true) false fuel t cs.toList = some x) : ∃ cs T fz, W.heap[g]? = some (.cells cs T fz) ∧ ∀ v ∈ cs, PlainV v := by
  obtain ⟨T, fz, hh⟩ := var_heap hg hv
  refine ⟨cs, T, fz, hh, fun v hvm => ?_⟩
  obtain ⟨xs, q, _, _, hlen, hxl, hel⟩ := DataW.trod_array ht hd
  obtain ⟨i, hi, rfl⟩ := Array.mem_iff_getElem.1 hvm
  have hlen' : cs.size = m := by have : cs.toList.length = m := hlen.trans hct; simpa using this
  have hE := hel i (by omega)
  rw [hce, Nat.mul_one, List.getElem?_eq_getElem (by omega)] at hE
  obtain ⟨z, e1, _, _⟩ := DataW.trod_int he hE
  have h0 : ((cs.toList.drop i).take 1)[0]? = some (.int k z) := by rw [e1]; rfl
  have h1 : cs[i]? = some (.int k z) := by simpa using h0
  rw [Array.getElem?_eq_getElem hi] at h1
  rw [Option.some.inj h1]
  exact plainV_of 1 rfl
theorem laid_vars {W : World} (h : laidMetH Tryz.prog Rows.parseWrapsRow.laid W) : (∀ y, y = 5 ∨ y = 6 ∨ y = 7 → ∃ cs T fz, W.heap[y]? = some (.cells cs T fz) ∧ ∀ v ∈ cs, PlainV v) ∧
    (∀ y, y = 8 ∨ y = 9 → ∃ b o T fz, W.heap[y]? = some (.cells #[.iface 253 (.pointer (some ⟨b, o, none⟩))] T fz)) ∧ ∃ b b2, Sent W b b2 := by
  rw [MakeChecks.laidMetH_plain _ _ _ (by kernel_rfl)] at h
  obtain ⟨ps, ⟨g1, t1, c1, f1, p1, q1, hg1, ht1, hv1, hd1, ⟨g2, t2, c2, f2, p2, q2, hg2, ht2, hv2, hd2, ⟨g3, t3, c3, f3, p3, q3, hg3, ht3, hv3, hd3, ⟨g4, t4, c4, f4, p4, q4, hg4, ht4, hv4, hd4, ⟨g5, t5, c5, f5, p5, q5, hg5, ht5, hv5, hd5, ⟨g6, t6, c6, f6, p6, q6, hg6, ht6, hv6, hd6, ⟨g7, t7, c7, f7, p7, q7, hg7, ht7, hv7, hd7, hq7, e7⟩, e6⟩, e5⟩, e4⟩, e3⟩, e2⟩, e1⟩, hnd, hrows⟩ := h
  obtain rfl := Option.some.inj ((show Tryz.prog.globalNamed "math/bits.deBruijn32tab" = some 6 by kernel_rfl).symm.trans hg1)
  obtain rfl := Option.some.inj ((show Tryz.prog.globalNamed "math/bits.deBruijn64tab" = some 7 by kernel_rfl).symm.trans hg2)
  obtain rfl := Option.some.inj ((show Tryz.prog.globalNamed "internal/strconv.uint64pow10" = some 5 by kernel_rfl).symm.trans hg3)
  obtain rfl := Option.some.inj ((show Tryz.prog.globalNamed "strconv.ErrRange" = some 9 by kernel_rfl).symm.trans hg4)
  obtain rfl := Option.some.inj ((show Tryz.prog.globalNamed "strconv.ErrSyntax" = some 8 by kernel_rfl).symm.trans hg5)
  obtain rfl := Option.some.inj ((show Tryz.prog.globalNamed "winnow/api.ErrReject" = some 0 by kernel_rfl).symm.trans hg6)
  obtain rfl := Option.some.inj ((show Tryz.prog.globalNamed "winnow/api.ErrConfig" = some 1 by kernel_rfl).symm.trans hg7)
  obtain rfl := Option.some.inj ((show (Tryz.prog.globals[9]?).map (·.type) = some 27 by kernel_rfl).symm.trans ht4)
  obtain rfl := Option.some.inj ((show (Tryz.prog.globals[8]?).map (·.type) = some 27 by kernel_rfl).symm.trans ht5)
  obtain rfl := Option.some.inj ((show (Tryz.prog.globals[0]?).map (·.type) = some 27 by kernel_rfl).symm.trans ht6)
  obtain rfl := Option.some.inj ((show (Tryz.prog.globals[1]?).map (·.type) = some 27 by kernel_rfl).symm.trans ht7)
  have hq7' : q7 = [] := hq7
  subst hq7'
  have ok : ∀ g, MemPlace.cell g 0 ∈ ps → ∀ u v, W.cell? ⟨g, 0, none⟩ = some (.iface u v) → Value.okWide Tryz.prog W .any 0 u v := fun g hm u v hc => (hrows g 0 hm).2 u v hc
  obtain rfl := Option.some.inj ((show (Tryz.prog.globals[6]?).map (·.type) = some 245 by kernel_rfl).symm.trans ht1)
  obtain rfl := Option.some.inj ((show (Tryz.prog.globals[7]?).map (·.type) = some 246 by kernel_rfl).symm.trans ht2)
  obtain rfl := Option.some.inj ((show (Tryz.prog.globals[5]?).map (·.type) = some 231 by kernel_rfl).symm.trans ht3)
  have size1 : ∀ {n : String} {g : Nat} {cs : Array Value} {fuel : Nat} {d : DataW Unit} {p : List MemPlace}, DataW.trod (fun _ => ()) Tryz.prog W 0 (fun _ => true) false fuel 27 cs.toList = some (.iface "*errors.errorString" d, p) → cs.size = 1 := by
    intro n g cs fuel d p hd
    obtain ⟨_, u, v, e, _, _⟩ := iface_of_trod Tryz.underlying27 hd
    have : cs.toList.length = 1 := by rw [e]; rfl
    simpa using this
  have s4 := size1 (n := "") (g := 0) hd4
  have s5 := size1 (n := "") (g := 0) hd5
  have s6 := size1 (n := "") (g := 0) hd6
  have s7 := size1 (n := "") (g := 0) hd7
  have m9 : MemPlace.cell 9 0 ∈ ps := by subst e1 e2 e3 e4; simp [MemPlace.row, s4]
  have m8 : MemPlace.cell 8 0 ∈ ps := by subst e1 e2 e3 e4 e5; simp [MemPlace.row, s5]
  have m0 : MemPlace.cell 0 0 ∈ ps := by subst e1 e2 e3 e4 e5 e6; simp [MemPlace.row, s6]
  have m1 : MemPlace.cell 1 0 ∈ ps := by subst e1 e2 e3 e4 e5 e6 e7; simp [MemPlace.row, s7]
  obtain ⟨a9, x9, k9, cs9, n9, _, r9⟩ := err_laid hg4 hv4 hd4 (ok 9 m9)
  obtain ⟨a8, x8, k8, cs8, n8, _, r8⟩ := err_laid hg5 hv5 hd5 (ok 8 m8)
  obtain ⟨a0, x0, k0, cs0, n0, w0, r0⟩ := err_laid hg6 hv6 hd6 (ok 0 m0)
  obtain ⟨a1, x1, k1, cs1, n1, w1, r1⟩ := err_laid hg7 hv7 hd7 (ok 1 m1)
  refine ⟨fun y hy => ?_, fun y hy => ?_, a0, a1, k0, k1, ?_, ?_, ?_⟩
  · rcases hy with rfl | rfl | rfl
    · exact arr_laid hg3 hv3 Tryz.underlying231 Tryz.underlying217 (by kernel_rfl) (by kernel_rfl) hd3
    · exact arr_laid hg1 hv1 Tryz.underlying245 Tryz.underlying5 (by kernel_rfl) (by kernel_rfl) hd1
    · exact arr_laid hg2 hv2 Tryz.underlying246 Tryz.underlying5 (by kernel_rfl) (by kernel_rfl) hd2
  · rcases hy with rfl | rfl
    · obtain ⟨T, fz, hh⟩ := var_heap hg5 hv5
      rw [cs8, cell_plain n8] at hh
      exact ⟨_, _, T, fz, hh⟩
    · obtain ⟨T, fz, hh⟩ := var_heap hg4 hv4
      rw [cs9, cell_plain n9] at hh
      exact ⟨_, _, T, fz, hh⟩
  · rintro rfl
    rw [n0] at n1
    cases n1
    rw [w0] at w1
    exact absurd w1 (by decide)
  · have : MemPlace.cell a0.block a0.off ∈ ps := by subst e1 e2 e3 e4 e5 e6 r0; simp [MemPlace.row]
    obtain ⟨c, t, hc⟩ := (hrows _ _ this).1
    exact ⟨c, t, hc⟩
  · have : MemPlace.cell a1.block a1.off ∈ ps := by subst e1 e2 e3 e4 e5 e6 e7 r1; simp [MemPlace.row]
    obtain ⟨c, t, hc⟩ := (hrows _ _ this).1
    exact ⟨c, t, hc⟩
end Go.Proofs.YtonmcakdofbjiaaGreatDoor
namespace Go.Proofs.YtonmcakdofbjiaaGreatDoor
open Go.RowKit
theorem extract_head (S : ByteArray) (i : Nat) (h : i + 1 < S.size) : (S.extract i (i + 2)).toList.head? = some (S[i]'(by omega)) := by
  have hz : (S.extract i (i + 2)).size = 2 := by simp [ByteArray.size_extract]; omega
  obtain ⟨h2, h3⟩ := extract_get S i (i + 2) 0 (by omega) (by omega)
  rw [ByteArray.toList_eq, List.head?_eq_getElem?, Array.getElem?_toList, Array.getElem?_eq_getElem (by show 0 < (S.extract i (i + 2)).size; omega)]
  exact congrArg some h3
theorem bad_here (S : ByteArray) (i : Nat) (hi : i < S.size) (h1 : isLetter (S[i]).toNat = false) (h2 : isDigit (S[i]).toNat = false) (h3 : ones.any (fun t => ((S[i]).toNat : Int) == t) = false) (h4 : ∀ t ∈ twos, t.head? ≠ some S[i]) : (itemAt S i).code = 20 := by
  have hs : signAt S i = ⟨#[]⟩ := by
    unfold signAt
    rw [if_neg, dif_pos hi, if_neg (by rw [h3]; simp)]
    rintro ⟨a, b⟩
    rw [List.any_eq_true] at b
    obtain ⟨t, ht, he⟩ := b
    have he' : (S.extract i (i + 2)).toList = t := by simpa using he
    have := extract_head S i a
    rw [he'] at this
    exact h4 t ht this
  unfold itemAt
  rw [if_neg (by simp [letterAt, hi, h1]), if_neg (by simp [digitAt, hi, h2]), hs]
  rw [if_pos (by rw [ByteArray.toList_eq]; rfl)]
section
variable {S : ByteArray} {n : Nat} (hz : S.size = n + 4) (b0 : S[n]'(by omega) = 10) (b1 : S[n + 1]'(by omega) = 32) (b2 : S[n + 2]'(by omega) = 44)
include b0 b1 b2
theorem skip_le : ∀ f i, i ≤ n + 2 → skipF S f i ≤ n + 2 := by
  intro f
  induction f with
  | zero => intro i h; exact h
  | succ f ih =>
    intro i h
    unfold skipF
    split
    · rename_i hi
      split
      · rename_i hb
        refine ih (i + 1) ?_
        by_cases e : i = n + 2
        · subst e; rw [b2] at hb; exact absurd hb (by decide)
        · omega
      · split
        · rename_i h35
          have hu := upto_spec isLine S i (by omega)
          have hin : i ≤ n := by
            by_cases e : i = n + 2
            · subst e; rw [b2] at h35; exact absurd h35 (by decide)
            · by_cases e : i = n + 1
              · subst e; rw [b1] at h35; exact absurd h35 (by decide)
              · omega
          have hk : upto isLine S i ≤ n := by
            rcases Nat.lt_or_ge n (upto isLine S i) with h' | h'
            · have := hu.2.2.1 n (by omega) hin h'
              rw [b0] at this
              exact absurd this (by decide)
            · exact h'
          exact ih _ (by omega)
        · exact h
    · exact h
theorem bad_at : ∀ i, n ≤ i → i ≤ n + 2 → (itemAt S i).code = 20 := by
  intro i h1 h2
  by_cases e0 : i = n
  · subst e0
    exact bad_here S i (by omega) (by rw [b0]; decide) (by rw [b0]; decide) (by rw [b0]; decide) (by rw [b0]; decide)
  · by_cases e1 : i = n + 1
    · subst e1
      exact bad_here S _ (by omega) (by rw [b1]; decide) (by rw [b1]; decide) (by rw [b1]; decide) (by rw [b1]; decide)
    · obtain rfl : i = n + 2 := by omega
      exact bad_here S _ (by omega) (by rw [b2]; decide) (by rw [b2]; decide) (by rw [b2]; decide) (by rw [b2]; decide)
theorem upto_le {pred : Int → Bool} (hp : pred 10 = false) (i : Nat) (hi : i ≤ n) : upto pred S i ≤ n := by
  have hu := upto_spec pred S i (by omega)
  rcases Nat.lt_or_ge n (upto pred S i) with h' | h'
  · have := hu.2.2.1 n (by omega) hi h'
    rw [b0] at this
    rw [show (((10 : UInt8).toNat : Nat) : Int) = 10 from rfl, hp] at this
    cases this
  · exact h'
theorem item_le (i : Nat) (hi : i ≤ n + 2) (hc : (itemAt S i).code = 0) : i + (itemAt S i).text.size ≤ n + 2 := by
  have hn : i < n := by
    rcases Nat.lt_or_ge i n with h | h
    · exact h
    · rw [bad_at hz b0 b1 b2 i h hi] at hc; cases hc
  unfold itemAt
  split
  · unfold wordAt
    split
    · show i + 0 ≤ n + 2; omega
    · have := upto_le hz b0 b1 b2 (pred := isAlnum) (by decide) i (by omega)
      simp [ByteArray.size_extract]; omega
  · split
    · unfold numAt
      split
      · show i + 0 ≤ n + 2; omega
      · have := upto_le hz b0 b1 b2 (pred := isDigit) (by decide) i (by omega)
        simp [ByteArray.size_extract]; omega
    · split
      · show i + 0 ≤ n + 2; omega
      · show i + (signAt S i).size ≤ n + 2
        unfold signAt
        split
        · simp [ByteArray.size_extract]; omega
        · split
          · split
            · simp [ByteArray.size_extract]; omega
            · show i + 0 ≤ n + 2; omega
          · show i + 0 ≤ n + 2; omega
theorem cut_bad : ∀ f i, i ≤ n + 2 → n + 3 - i ≤ f → ∃ x ∈ cutF S f i, x.code ≠ 0 := by
  intro f
  induction f with
  | zero => intro i h1 h2; omega
  | succ f ih =>
    intro i h1 h2
    unfold cutF
    rw [if_pos (by omega)]
    by_cases hc : (itemAt S i).code = 0
    · rw [if_pos hc]
      have hp := (item_pos (s := S) (i := i) (by omega) hc).1
      have hl := item_le hz b0 b1 b2 i h1 hc
      have hs : skipTo S (i + (itemAt S i).text.size) ≤ n + 2 := skip_le hz b0 b1 b2 _ _ hl
      have hg := skipTo_ge S (i + (itemAt S i).text.size)
      obtain ⟨x, hx, hxc⟩ := ih _ hs (by omega)
      exact ⟨x, List.mem_cons_of_mem _ hx, hxc⟩
    · rw [if_neg hc]
      exact ⟨_, List.mem_cons_self .., hc⟩
end
theorem fold_bad : ∀ (l : List Item) (acc : Int × Int), (acc.1 ≠ 0 ∨ ∃ x ∈ l, x.code ≠ 0) → (l.foldl (fun acc x => if x.code = 0 then acc else (x.code, x.place)) acc).1 ≠ 0
  | [], acc, h => by
    rcases h with h | ⟨x, hx, _⟩
    · exact h
    · cases hx
  | y :: l, acc, h => by
    rw [List.foldl_cons]
    refine fold_bad l _ ?_
    by_cases hy : y.code = 0
    · rw [if_pos hy]
      rcases h with h | ⟨x, hx, hc⟩
      · exact .inl h
      · rcases List.mem_cons.1 hx with rfl | hx
        · exact absurd hy hc
        · exact .inr ⟨x, hx, hc⟩
    · rw [if_neg hy]; exact .inl hy
theorem append_get (s t : ByteArray) (j : Nat) (hj : j < t.size) : (s ++ t)[s.size + j]'(by rw [ByteArray.size_append]; omega) = t[j] := by
  rw [ByteArray.getElem_append_right (by omega)]
  simp
theorem tail_bad (s : ByteArray) : ∃ x p, ParsesTo (s ++ { data := #[10, 32, 44, 32] }) (.fault x p) := by
  have hz : (s ++ { data := #[10, 32, 44, 32] } : ByteArray).size = s.size + 4 := by rw [ByteArray.size_append]; rfl
  have g0 := append_get s { data := #[10, 32, 44, 32] } 0 (by decide)
  have g1 := append_get s { data := #[10, 32, 44, 32] } 1 (by decide)
  have g2 := append_get s { data := #[10, 32, 44, 32] } 2 (by decide)
  have hbad : (badOf (pieces (s ++ { data := #[10, 32, 44, 32] }))).1 ≠ 0 := by
    refine fold_bad _ _ (.inr ?_)
    refine cut_bad hz g0 g1 g2 _ _ (skip_le hz g0 g1 g2 _ _ (by omega)) (by omega)
  unfold ParsesTo
  by_cases h : 8192 < (s ++ { data := #[10, 32, 44, 32] } : ByteArray).size
  · exact ⟨21, 8192, by rw [if_pos h]⟩
  · exact ⟨_, _, by rw [if_neg h, if_pos hbad]⟩
end Go.Proofs.YtonmcakdofbjiaaGreatDoor
