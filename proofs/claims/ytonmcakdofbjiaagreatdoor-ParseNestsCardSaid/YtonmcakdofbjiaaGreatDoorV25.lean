/-
  The parts: Prs18 Prs19 Shp1
-/
import Derived.Test.YtonmcakdofbjiaaGreatDoorV24
import Derived.Test.YtonmcakdofbjiaaGreatDoorV19
set_option linter.unusedVariables false
set_option linter.unusedSimpArgs false
set_option linter.unusedSectionVars false
set_option linter.unnecessarySimpa false
set_option maxRecDepth 100000
set_option maxHeartbeats 8000000
namespace Go.Proofs.YtonmcakdofbjiaaGreatDoor
open Go.RowKit Go.Bsd
def outOf (l : List Nd) : POut :=
 if 300 < l.length then .fault 32 ((l[300]?.map (·.at_)).getD 0)
 else match l.find? (fun n => decide (24 < n.depth)) with
   | some n => .fault 31 n.at_
   | none => .tree l
def outOfRes : Res (List Tr) -> POut
 | .no p => .fault 30 p
 | .ok ts _ => outOf (flatTs ts 1)
theorem leave_fault (te : TypeId) (pe : Value) (w W : World) (tmps : Array Value) (n0 q : Nat) (k p : Int) (b : Option Addr) (n m : Nat) (t2 : tmps.getD 2 undef = .pointer (some ⟨n0, 0, none⟩)) (t3 : tmps.getD 3 undef = .pointer (some ⟨n0 + 1, 0, none⟩)) (hn : n0 = w.heap.size) (hk : Kin w W)
   (c2 : W.cell? ⟨n0, 0, none⟩ = some (.slice b n m)) (c3 : W.cell? ⟨n0 + 1, 0, none⟩ = some .nilIface) (f2 : W.frozen? ⟨n0, 0, none⟩ = false) (f3 : W.frozen? ⟨n0 + 1, 0, none⟩ = false) (hl : n0 + 1 < W.heap.size) (hq : n0 + 1 < q) (hf : W.heap[q]? = some (.cells #[.int .i64 k, .int .i64 p, .iface te pe] 73 (0, 0))) :
   Leaves Tryz.prog Tryz.f14 tmps (ParPost te pe w (.fault k p)) [{ target := Target.fn (Fn.func 42) #[Value.pointer (some { block := n0, off := 0 }), Value.pointer (some { block := n0 + 1, off := 0 })], args := #[] }] (.panicking [{ v := .iface 71 (.pointer (some ⟨q, 0, none⟩)), recovered := false }]) W := by
 have hinv : (invoke (.fn (.func 42) #[.pointer (some ⟨n0, 0, none⟩), .pointer (some ⟨n0 + 1, 0, none⟩)]) #[]).run Tryz.prog W = .ok (.enter 42 #[.pointer (some ⟨n0, 0, none⟩), .pointer (some ⟨n0 + 1, 0, none⟩)]) W := by
   have := callFunc_of Tryz.func42 (by kernel_rfl) (by kernel_rfl) #[.pointer (some ⟨n0, 0, none⟩), .pointer (some ⟨n0 + 1, 0, none⟩)] W
   simpa [invoke] using this
 refine ⟨by simp, _, _, 42, _, rfl, hinv, ?_⟩
 have hc := pcatch_panicking n0 q b n m W c2 c3 f2 f3 hl
 have p2 : ((W.setCell ⟨n0, 0, none⟩ (.slice none 0 0)).setCell ⟨n0 + 1, 0, none⟩ (.iface 71 (.pointer (some ⟨q, 0, none⟩)))).cell? ⟨n0, 0, none⟩ = some (.slice none 0 0) := by simp [go_sem, c2]
 have p3 : ((W.setCell ⟨n0, 0, none⟩ (.slice none 0 0)).setCell ⟨n0 + 1, 0, none⟩ (.iface 71 (.pointer (some ⟨q, 0, none⟩)))).cell? ⟨n0 + 1, 0, none⟩ = some (.iface 71 (.pointer (some ⟨q, 0, none⟩))) := by simp [go_sem, c3]
 have g1 := grown_set W n0 0 (.slice none 0 0)
 have g2 := grown_set (W.setCell ⟨n0, 0, none⟩ (.slice none 0 0)) (n0 + 1) 0 (.iface 71 (.pointer (some ⟨q, 0, none⟩)))
 have s0 := hk.size
 have s1 := g1.size
 have s2 := g2.size
 have hql : q < W.heap.size := (Array.getElem?_eq_some_iff.1 hf).1
 refine hc.mono ?_
 rintro e u' w' ⟨rfl, rfl, rfl⟩
 refine ⟨_, res14 _ n0 _ none 0 0 _ t2 t3 p2 p3 (.inr ⟨_, _, rfl⟩), ⟨hk.os, hk.out, by omega, fun x hx => ?_⟩, q, rfl, by omega, ?_⟩
 · exact (g2.block x (by omega) (by simp; omega)).trans ((g1.block x (by omega) (by simp; omega)).trans (hk.block x hx))
 · exact (g2.block q (by omega) (by simp; omega)).trans ((g1.block q (by omega) (by simp; omega)).trans hf)
theorem leave_tree (te : TypeId) (pe : Value) (w W : World) (tmps : Array Value) (n0 : Nat) (l : List Nd) (b : Option Addr) (c : Nat) (t2 : tmps.getD 2 undef = .pointer (some ⟨n0, 0, none⟩)) (t3 : tmps.getD 3 undef = .pointer (some ⟨n0 + 1, 0, none⟩)) (hk : Kin w W)
   (c2 : W.cell? ⟨n0, 0, none⟩ = some (.slice b l.length c)) (c3 : W.cell? ⟨n0 + 1, 0, none⟩ = some .nilIface) (ho : W.ownsRow w.heap.size 50 6 (.slice b l.length c) l.length (ndCells l)) :
   Leaves Tryz.prog Tryz.f14 tmps (ParPost te pe w (.tree l)) [{ target := Target.fn (Fn.func 42) #[Value.pointer (some { block := n0, off := 0 }), Value.pointer (some { block := n0 + 1, off := 0 })], args := #[] }] .returning W := by
 have hinv : (invoke (.fn (.func 42) #[.pointer (some ⟨n0, 0, none⟩), .pointer (some ⟨n0 + 1, 0, none⟩)]) #[]).run Tryz.prog W = .ok (.enter 42 #[.pointer (some ⟨n0, 0, none⟩), .pointer (some ⟨n0 + 1, 0, none⟩)]) W := by
   have := callFunc_of Tryz.func42 (by kernel_rfl) (by kernel_rfl) #[.pointer (some ⟨n0, 0, none⟩), .pointer (some ⟨n0 + 1, 0, none⟩)] W
   simpa [invoke] using this
 refine ⟨by simp, _, _, 42, _, rfl, hinv, ?_⟩
 refine (pcatch_idle ⟨n0, 0, none⟩ ⟨n0 + 1, 0, none⟩ W).mono ?_
 rintro e u' w' ⟨rfl, rfl, rfl⟩
 exact ⟨_, res14 _ n0 _ b _ c _ t2 t3 c2 c3 (.inl rfl), hk, _, rfl, ho⟩
theorem nd_get {L : List Nd} {j : Nat} {t : Nd} (h : L[j]? = some t) (k : Nat) (hk : k < 6) : (ndCells L)[j * 6 + k]? = t.cells[k]? := by
 induction L generalizing j with
 | nil => simp at h
 | cons x l ih =>
   have e : ndCells (x :: l) = x.cells ++ ndCells l := by simp [ndCells]
   have hl : x.cells.length = 6 := rfl
   rw [e]
   cases j with
   | zero =>
     simp at h
     subst h
     rw [List.getElem?_append_left (by rw [hl]; omega)]
     congr 1
     omega
   | succ j =>
     simp at h
     rw [List.getElem?_append_right (by rw [hl]; omega), hl, show (j + 1) * 6 + k - 6 = j * 6 + k from by omega]
     exact ih h
structure FlI (n0 : Nat) (w3 wr : World) (b : Option Addr) (c : Nat) (l : List Nd) : Prop where
 cell : wr.cell? ⟨n0, 0, none⟩ = some (.slice b l.length c)
 froz : wr.frozen? ⟨n0, 0, none⟩ = false
 own : wr.ownsRow w3.heap.size 50 6 (.slice b l.length c) l.length (ndCells l)
 os : wr.os = w3.os
 out : wr.output = w3.output
 size : w3.heap.size <= wr.heap.size
 keep : ∀ k, k < w3.heap.size -> k ≠ n0 -> wr.heap[k]? = w3.heap[k]?
theorem slice_of {w : World} {B : Nat} {e : TypeId} {z n : Nat} {v : Value} {xs : List Value} (h : w.ownsRow B e z v n xs) : ∃ b c, v = .slice b n c := by
 rcases h.2 with ⟨h1, h2⟩ | ⟨g, cap, cur, h1, _⟩
 · exact ⟨none, 0, by rw [h1, h2]⟩
 · exact ⟨_, cap, h1⟩
theorem FlI.step {n0 : Nat} {w3 wr w' : World} {b b' : Option Addr} {c c' : Nat} {l l' : List Nd} (h : FlI n0 w3 wr b c l) (hn : n0 < w3.heap.size) (hb : Below w3.heap.size wr w') (ho : w'.ownsRow w3.heap.size 50 6 (.slice b' l'.length c') l'.length (ndCells l')) : FlI n0 w3 (w'.setCell ⟨n0, 0, none⟩ (.slice b' l'.length c')) b' c' l' := by
 have g := grown_set w' n0 0 (.slice b' l'.length c')
 have c1 : w'.cell? ⟨n0, 0, none⟩ = some (.slice b l.length c) := (hb.cell (p := ⟨n0, 0, none⟩) hn).trans h.cell
 have c2 : w'.frozen? ⟨n0, 0, none⟩ = false := (hb.frozen (p := ⟨n0, 0, none⟩) hn).trans h.froz
 refine ⟨by simp [go_sem, c1], by simp [go_sem, c2], ho.kept g ?_, (g.os.trans hb.os).trans h.os, (g.output.trans hb.output).trans h.out, Nat.le_trans (Nat.le_trans h.size hb.size) g.size, fun k hk hkn => ?_⟩
 · cases hv : (Value.slice b' l'.length c').ownBlock with
   | none => exact .inl rfl
   | some k => right; have := ho.lt k hv; simp; omega
 · exact (g.block k (by have := h.size; have := hb.size; omega) (by simp; omega)).trans ((hb.block k hk).trans (h.keep k hk hkn))
theorem parse_good (s : ByteArray) (hs : s.size <= 8192) (te : TypeId) (pe : Value) (w w1 : World) (n0 f : Nat) (sl : Value) (pl : Int) (r : Res (List Tr)) (hr : rd (ctxOf s te pe w1.heap.size sl) f .prog 0 = some r) (hn : n0 = w.heap.size) (hk : Kin w w1) (c2 : w1.cell? ⟨n0, 0, none⟩ = some (.slice none 0 0)) (c3 : w1.cell? ⟨n0 + 1, 0, none⟩ = some .nilIface) (f2 : w1.frozen? ⟨n0, 0, none⟩ = false) (f3 : w1.frozen? ⟨n0 + 1, 0, none⟩ = false) (hl : n0 + 1 < w1.heap.size) (ce : w1.cell? ⟨0, 0, none⟩ = some (.iface te pe))
   (B : Nat) (hown : w1.ownsRow B 140 4 sl (goodOf (pieces s)).length (flatToks (goodOf (pieces s)))) (hL : (goodOf (pieces s)).length <= 8193) :
   pk2.wp Tryz.prog (bodyPostD Tryz.prog Tryz.f14 (ParPost te pe w (outOfRes r))) { tmps := #[.string s, undef, .pointer (some ⟨n0, 0, none⟩), .pointer (some ⟨n0 + 1, 0, none⟩), sl, .int .i64 0, .int .i64 pl, undef, undef, undef, undef, undef, .tuple #[sl, .int .i64 0, .int .i64 pl], .string s, .tuple #[sl, .int .i64 0, .int .i64 pl], sl, .int .i64 0, .int .i64 pl, undef, undef, undef, undef, undef, undef, undef, undef, undef, undef, undef, undef, undef, undef, undef, undef, undef, undef, undef, undef, undef, undef, undef, undef, undef, undef, undef, undef, undef, undef, undef, undef, undef, undef, undef, undef, undef, undef, undef, undef, undef, undef, undef, undef, undef, undef, undef], defers := [] } w1 := by
 have hRd := rd_start s te pe sl B w1 hown hL ce
 have HK := Lib.hid hk
 have HN := Lib.hid hn
 have hsl : ∃ b cap, sl = .slice b (goodOf (pieces s)).length cap := by
   rcases hown.2 with ⟨h, hn⟩ | ⟨g, cap, cur, h, _⟩
   · exact ⟨none, 0, by rw [h, hn]⟩
   · exact ⟨_, cap, h⟩
 obtain ⟨sb, sc, rfl⟩ := hsl
 have hprog := prog_any _ f 0 _ r hr hRd
 have hr0 := Lib.hid hr
 clear hk hn hr hown
 generalize hQ : bodyPostD Tryz.prog Tryz.f14 (ParPost te pe w (outOfRes r)) = Q
 have HQ := Lib.hid hQ
 clear hQ
 simp only [pk2, pk0, seqR, Tryz.f14, Option.getD_some]
 cases r with
 | no p =>
   have hprog := calls_no hprog
   go_wp2_with (go_at_call 43; refine (hprog).mono ?_; rintro e w' ⟨ch, rfl, hF⟩)
   rw [<- HQ.out]
   have hgA := World.grownBy_alloc w1 (Obj.cells #[Value.slice sb (goodOf (pieces s)).length sc, Value.int IntKind.i64 0, Value.int IntKind.i64 ↑s.size] 86) (some w1.heap.size)
   obtain ⟨q, rfl, hq1, hq2, hgB⟩ := hF
   have hG : w1.grownBy w' (some w1.heap.size) := grown_trans hgA hgB
   have hk := HK.out
   have hn := HN.out
   have s0 := hk.size
   have s1 := hG.size
   have hqs : w1.heap.size + 1 <= q := by simpa using hq1
   exact leave_fault te pe w w' _ n0 q 30 p none 0 0 rfl rfl hn ⟨hG.os.trans hk.os, hG.output.trans hk.out, by omega, fun x hx => (hG.block x (by omega) (by simp; omega)).trans (hk.block x hx)⟩
     (hG.cell c2 (by simp; omega)) (hG.cell c3 (by simp; omega)) ((World.frozen?_of_block (a := ⟨n0, 0, none⟩) (hG.block n0 (by omega) (by simp; omega))).trans f2) ((World.frozen?_of_block (a := ⟨n0 + 1, 0, none⟩) (hG.block (n0 + 1) hl (by simp; omega))).trans f3) (by omega) (by omega) hq2
 | ok ts j =>
   have hnod := rd_nodes _ _ _ _ _ _ hr0.out
   have hprog := calls_kids hprog
   go_wp2_with (go_at_call 43; refine (hprog).mono ?_; rintro e w3 ⟨v3, rfl, hK3, hR3, hG3⟩; obtain ⟨kb, kc, rfl, hKK⟩ := hK3.kids hRd.lt)
   have hjl := hR3.le
   have hcnt : (flatTs ts 1).length <= 8193 := by
     have e := flatTs_length 1 0 ts
     have h2 : 0 + nodes ts <= j + 0 := hnod
     have h3 : j <= (goodOf (pieces s)).length := hjl
     unfold nodes at h2
     omega
   have hgA := World.grownBy_alloc w1 (Obj.cells #[Value.slice sb (goodOf (pieces s)).length sc, Value.int IntKind.i64 0, Value.int IntKind.i64 ↑s.size] 86) (some w1.heap.size)
   have hG : w1.grownBy w3 (some w1.heap.size) := grown_trans hgA hG3
   have hsA : w1.heap.size + 1 <= w3.heap.size := by have := hG3.size; simpa using this
   have d2 : w3.cell? ⟨n0, 0, none⟩ = some (.slice none 0 0) := hG.cell c2 (by simp; omega)
   have e2 : w3.frozen? ⟨n0, 0, none⟩ = false := (World.frozen?_of_block (a := ⟨n0, 0, none⟩) (hG.block n0 (by omega) (by simp; omega))).trans f2
   obtain ⟨g, q, hb1, hb2, hb3, hb4, hb5⟩ := hKK
   have HG := Lib.hid hG
   have HB1 := Lib.hid hb1
   have HB2 := Lib.hid hb2
   have HB4 := Lib.hid hb4
   have HB5 := Lib.hid hb5
   have hn3 : n0 < w3.heap.size := by omega
   have HZ : Hid (∀ (x : World) {b : Option Addr} {c : Nat} {l : List Nd}, FlI n0 w3 x b c l -> x.cell? ⟨0, 0, none⟩ = some (.iface te pe)) := by
     intro x b c l hx
     have hz0 := World.block_lt_of_cell? w1 ⟨0, 0, none⟩ ce
     have h0 : (0 : Nat) ≠ n0 := by rintro rfl; rw [c2] at ce; cases ce
     exact (World.cell?_of_block (a := ⟨0, 0, none⟩) (hx.keep 0 (by omega) h0)).trans (hG.cell ce (by simp; omega))
   have HW : Hid (∀ (x : World) {b : Option Addr} {c : Nat} {l : List Nd}, FlI n0 w3 x b c l -> Kin w x /\ x.cell? ⟨n0 + 1, 0, none⟩ = some .nilIface /\ x.frozen? ⟨n0 + 1, 0, none⟩ = false /\ n0 + 1 < x.heap.size) := by
     intro x b c l hx
     have hk := HK.out
     have hn := HN.out
     have s0 := hk.size
     have s1 := hG.size
     have s2 := hx.size
     refine ⟨⟨(hx.os.trans hG.os).trans hk.os, (hx.out.trans hG.output).trans hk.out, by omega, fun y hy => (hx.keep y (by omega) (by omega)).trans ((hG.block y (by omega) (by simp; omega)).trans (hk.block y hy))⟩, ?_, ?_, by omega⟩
     · exact (World.cell?_of_block (a := ⟨n0 + 1, 0, none⟩) (hx.keep (n0 + 1) (by omega) (by omega))).trans (hG.cell c3 (by simp; omega))
     · exact (World.frozen?_of_block (a := ⟨n0 + 1, 0, none⟩) (hx.keep (n0 + 1) (by omega) (by omega))).trans ((World.frozen?_of_block (a := ⟨n0 + 1, 0, none⟩) (hG.block (n0 + 1) hl (by simp; omega))).trans f3)
   clear hK3 hG3 hgA hG hb1 hb2 hb4 hb5 hprog hRd hR3 hnod hr0
   go_loopg [33] ts.length (fun gg x wr => ∃ (k : Nat) (b : Option Addr) (c : Nat), x = .int .i64 k /\ k <= ts.length /\ gg = ts.length - k /\ FlI n0 w3 wr b c (flatTs (ts.take k) 1))
   case atStart => exact ⟨0, none, 0, rfl, Nat.zero_le _, rfl, d2, e2, World.ownsRow_nil _ _ _ _, rfl, rfl, Nat.le_refl _, fun _ _ _ => rfl⟩
   case round =>
     obtain ⟨k, b, c, rfl, hk, hgg, hI⟩ := hrel
     have HI := Lib.hid hI
     have HGG := Lib.hid hgg
     have x1 := hI.cell
     have x2 := hI.froz
     clear hI hgg d2 e2 c2 c3 f2 f3 ce
     by_cases hlt : k < ts.length
     · have hkb : k < 100000 := by have := flatTs_ge 1 ts; omega
       obtain ⟨u, hu⟩ : ∃ u, ts[k]? = some u := ⟨_, List.getElem?_eq_getElem hlt⟩
       have hne : ts ≠ [] := by rintro rfl; simp at hlt
       have hbe := HB1.out hne
       subst hbe
       have hTu := HB5.out k u hu
       have hOld : ∀ y, ¬ Old (ctxOf s te pe w1.heap.size (Value.slice sb (goodOf (pieces s)).length sc)) (w1.alloc (Obj.cells #[Value.slice sb (goodOf (pieces s)).length sc, Value.int IntKind.i64 0, Value.int IntKind.i64 ↑s.size] 86)) y -> w1.heap.size + 1 <= y := by
         intro y hy
         unfold Old at hy
         simp at hy
         omega
       have hgn : g ≠ n0 := by have := hOld g (HB2.out hne); omega
       have hgl := World.block_lt_of_cell? w3 ⟨g, k, none⟩ (HB4.out k u hu)
       have hcell : wr.cell? ⟨g, k, none⟩ = some (.pointer (some ⟨q k, 0, none⟩)) := (World.cell?_of_block (a := ⟨g, k, none⟩) (HI.out.keep g hgl hgn)).trans (HB4.out k u hu)
       have hcnt2 : (flatTs (ts.take k) 1).length + (flatT u 1).length <= (flatTs ts 1).length := by
         have e : ts = ts.take k ++ u :: ts.drop (k + 1) := by
           rw [List.getElem?_eq_getElem hlt] at hu
           rw [<- Option.some.inj hu, List.getElem_cons_drop, List.take_append_drop]
         have e2 := congrArg (fun x => (flatTs x 1).length) e
         simp only [flatTs_append, flatTs, List.length_append] at e2
         omega
       have l3 := flatT_length 0 1 u
       have hTA : TrAt (fun y => w3.heap.size <= y \/ y < w1.heap.size + 1) w3 (q k) u := hTu.bound.mono fun y hy => by
         rcases hy with hy | hy
         · exact .inr hy
         · refine .inl ?_
           unfold Old
           simp
           omega
       have hcall := flat_any (w1.heap.size + 1) w3.heap.size w3 (Nat.le_refl _) (q k) u hTA wr _ _ 1 (fun y h1 h2 => HI.out.keep y h2 (by omega)) HI.out.size HI.out.own (by omega) (by omega) (by omega)
       have HU := Lib.hid hu
       clear hu hcnt2 l3 hTA hTu hOld
       go_wp2_with (go_at_call 44; refine (hcall).mono ?_; rintro e w' ⟨v', rfl, hb', ho'⟩; obtain ⟨b2, cc2, rfl⟩ := slice_of ho'; have y1 := (hb'.cell (p := ⟨n0, 0, none⟩) hn3).trans x1; have y2 := (hb'.frozen (p := ⟨n0, 0, none⟩) hn3).trans x2)
       have hst := HI.out.step hn3 hb' ho'
       go_roundg (ts.length - (k + 1))
       case measure => have := HGG.out; omega
       case rel =>
         have e : ts.take (k + 1) = ts.take k ++ [u] := by rw [List.take_add_one, HU.out]; rfl
         have e3 : flatTs (ts.take (k + 1)) 1 = flatTs (ts.take k) 1 ++ flatT u 1 := by rw [e, flatTs_append]; simp [flatTs]
         refine ⟨k + 1, b2, cc2, by go_num, by omega, rfl, ?_⟩
         rw [e3]
         rw [List.length_append] at hst
         exact hst
     · have hkk : k = ts.length := by omega
       subst hkk
       have hI := HI.out
       rw [List.take_length] at hI x1
       generalize hll : flatTs ts 1 = l at hI x1 hcnt
       have HLL := Lib.hid hll
       have HI2 := Lib.hid hI
       clear hll hI HI
       by_cases hm : 300 < l.length
       · have hdm : decide ((300 : Int) < (l.length : Int)) = true := by simp; omega
         obtain ⟨u, hu⟩ : ∃ u, l[300]? = some u := ⟨_, List.getElem?_eq_getElem hm⟩
         have hz : wr.cell? ⟨0, 0, none⟩ = some (.iface te pe) := HZ.out wr HI2.out
         obtain ⟨gb, rfl⟩ : ∃ gb, b = some ⟨gb, 0, none⟩ := by
           rcases HI2.out.own.2 with ⟨h1, h2⟩ | ⟨g', cap, cur, h1, _⟩
           · omega
           · exact ⟨g', by simp at h1; exact h1.1⟩
         have hc5 : wr.cell? ⟨gb, 1805, none⟩ = some (.int .i64 u.at_) := by
           have := HI2.out.own.cells rfl 1805 (.int .i64 u.at_) ((nd_get hu 5 (by omega)).trans rfl)
           rw [show ((⟨gb, 0, none⟩ : Addr).add 1805) = ⟨gb, 1805, none⟩ from by unfold Addr.add; split <;> simp_all] at this
           exact this
         go_wp2_with (go_at_call 41; refine (refused_any 32 u.at_ te pe _ hz).mono ?_; rintro e w' ⟨rfl, rfl⟩)
         rw [<- HQ.out]
         obtain ⟨kw, z3, zf3, zl⟩ := HW.out wr HI2.out
         have g4 := World.grownBy_alloc wr (Obj.cells #[Value.int IntKind.i64 32, Value.int IntKind.i64 u.at_, Value.iface te pe] 73) none
         have e : outOfRes (Res.ok ts j) = .fault 32 u.at_ := by
           show outOf (flatTs ts 1) = _
           rw [HLL.out]
           unfold outOf
           rw [if_pos hm, hu]
           rfl
         rw [e]
         have s4 := g4.size
         exact leave_fault te pe w _ _ n0 wr.heap.size 32 u.at_ _ _ _ rfl rfl HN.out ⟨kw.os, kw.out, Nat.le_trans kw.size s4, fun x hx => (g4.block x (by have := kw.size; omega) (by simp)).trans (kw.block x hx)⟩
           (g4.cell x1 (by simp)) (g4.cell z3 (by simp)) ((World.frozen?_of_block (a := ⟨n0, 0, none⟩) (g4.block n0 (by omega) (by simp))).trans x2) ((World.frozen?_of_block (a := ⟨n0 + 1, 0, none⟩) (g4.block (n0 + 1) zl (by simp))).trans zf3) (by omega) (by omega) (heap_alloc_new wr _)
       · have hdm : decide ((300 : Int) < (l.length : Int)) = false := by simp; omega
         go_wp2
         obtain ⟨kw, z3, zf3, zl⟩ := HW.out wr HI2.out
         have hz : wr.cell? ⟨0, 0, none⟩ = some (.iface te pe) := HZ.out wr HI2.out
         have hz0 := World.block_lt_of_cell? wr ⟨0, 0, none⟩ hz
         have HKW := Lib.hid kw
         clear kw
         obtain ⟨wo, rfl⟩ : ∃ wo : World, wo = wr := ⟨_, rfl⟩
         go_loopg [52] l.length (fun gg x wq => ∃ k : Nat, x = .int .i64 k /\ k <= l.length /\ gg = l.length - k /\ Below wo.heap.size wo wq /\ ∀ (i : Nat) (n : Nd), i < k -> l[i]? = some n -> ¬ 24 < n.depth)
         case atStart => exact ⟨0, rfl, Nat.zero_le _, rfl, Below.refl _ _, fun i n hi => by omega⟩
         case round =>
           obtain ⟨k, rfl, hk2, hgg, hbq, hsmall⟩ := hrel
           have HBQ := Lib.hid hbq
           have HSM := Lib.hid hsmall
           have HGG2 := Lib.hid hgg
           clear hbq hsmall hgg
           by_cases hlk : k < l.length
           · obtain ⟨u, hu⟩ : ∃ u, l[k]? = some u := ⟨_, List.getElem?_eq_getElem hlk⟩
             obtain ⟨gb, rfl⟩ : ∃ gb, b = some ⟨gb, 0, none⟩ := by
               rcases HI2.out.own.2 with ⟨h1, h2⟩ | ⟨g', cap, cur, h1, _⟩
               · omega
               · exact ⟨g', by simp at h1; exact h1.1⟩
             have hgl := (HI2.out.own.lt gb rfl).2
             have cells : ∀ o v, o < 6 -> u.cells[o]? = some v -> wr.cell? ⟨gb, k * 6 + o, none⟩ = some v := by
               intro o v ho hv
               have := HI2.out.own.cells rfl (k * 6 + o) v ((nd_get hu o ho).trans hv)
               rw [show ((⟨gb, 0, none⟩ : Addr).add (k * 6 + o)) = ⟨gb, k * 6 + o, none⟩ from by unfold Addr.add; split <;> simp_all] at this
               exact (HBQ.out.cell (p := ⟨gb, k * 6 + o, none⟩) hgl).trans this
             have r0 := cells 0 _ (by omega) rfl
             have r1 := cells 1 _ (by omega) rfl
             have r2 := cells 2 _ (by omega) rfl
             have r3 := cells 3 _ (by omega) rfl
             have r4 := cells 4 _ (by omega) rfl
             have r5 := cells 5 _ (by omega) rfl
             simp only [Nat.add_zero] at r0
             have hzq : wr.cell? ⟨0, 0, none⟩ = some (.iface te pe) := (HBQ.out.cell (p := ⟨0, 0, none⟩) hz0).trans hz
             have HU := Lib.hid hu
             have sq := HBQ.out.size
             clear cells hu
             by_cases hd : (24 : Int) < u.depth
             · have hdd : decide ((24 : Int) < u.depth) = true := by simp [hd]
               have HD := Lib.hid hd
               clear hd
               go_wp2_with (go_at_call 41; refine (refused_any 31 u.at_ te pe _ (by first | exact hzq | simpa using hzq | exact (World.grownBy_alloc wr _ none).cell hzq (by simp))).mono ?_; rintro e w' ⟨rfl, rfl⟩)
               rw [<- HQ.out]
               have hout : outOfRes (Res.ok ts j) = .fault 31 u.at_ := by
                 show outOf (flatTs ts 1) = _
                 rw [HLL.out]
                 unfold outOf
                 rw [if_neg hm]
                 have : l.find? (fun n => decide (24 < n.depth)) = some u := by
                   rw [List.find?_eq_some_iff_getElem]
                   refine ⟨by simpa using HD.out, k, hlk, ?_, fun i hi => ?_⟩
                   · have := HU.out
                     rw [List.getElem?_eq_getElem hlk] at this
                     exact Option.some.inj this
                   · have := HSM.out i (l[i]'(by omega)) hi (List.getElem?_eq_getElem (by omega))
                     simpa using this
                 rw [this]
               rw [hout]
               have kw := HKW.out
               have skw := kw.size
               have hn := HN.out
               have g4 := World.grownBy_alloc wr (Obj.cells #[Value.int IntKind.i64 u.depth, Value.int IntKind.i64 u.kind, Value.string u.name, Value.int IntKind.i64 u.num, Value.int IntKind.i64 u.op, Value.int IntKind.i64 u.at_] 50) none
               have g5 := World.grownBy_alloc (wr.alloc (Obj.cells #[Value.int IntKind.i64 u.depth, Value.int IntKind.i64 u.kind, Value.string u.name, Value.int IntKind.i64 u.num, Value.int IntKind.i64 u.op, Value.int IntKind.i64 u.at_] 50)) (Obj.cells #[Value.int IntKind.i64 31, Value.int IntKind.i64 u.at_, Value.iface te pe] 73) none
               have g6 := grown_trans g4 g5
               have s6 := g6.size
               have w3s := HI2.out.size
               have y1 : wr.cell? ⟨n0, 0, none⟩ = _ := (HBQ.out.cell (p := ⟨n0, 0, none⟩) (by show n0 < _; omega)).trans x1
               have y2 : wr.frozen? ⟨n0, 0, none⟩ = false := (HBQ.out.frozen (p := ⟨n0, 0, none⟩) (by show n0 < _; omega)).trans x2
               have y3 : wr.cell? ⟨n0 + 1, 0, none⟩ = some .nilIface := (HBQ.out.cell (p := ⟨n0 + 1, 0, none⟩) zl).trans z3
               have y4 : wr.frozen? ⟨n0 + 1, 0, none⟩ = false := (HBQ.out.frozen (p := ⟨n0 + 1, 0, none⟩) zl).trans zf3
               exact leave_fault te pe w _ _ n0 (wr.heap.size + 1) 31 u.at_ _ _ _ rfl rfl hn ⟨HBQ.out.os.trans kw.os, HBQ.out.output.trans kw.out, by omega, fun x hx => (g6.block x (by omega) (by simp)).trans ((HBQ.out.block x (by omega)).trans (kw.block x hx))⟩
                 (g6.cell y1 (by simp)) (g6.cell y3 (by simp)) ((World.frozen?_of_block (a := ⟨n0, 0, none⟩) (g6.block n0 (by omega) (by simp))).trans y2) ((World.frozen?_of_block (a := ⟨n0 + 1, 0, none⟩) (g6.block (n0 + 1) (by omega) (by simp))).trans y4) (by omega) (by omega) (by simpa using heap_alloc_new (wr.alloc (Obj.cells #[Value.int IntKind.i64 u.depth, Value.int IntKind.i64 u.kind, Value.string u.name, Value.int IntKind.i64 u.num, Value.int IntKind.i64 u.op, Value.int IntKind.i64 u.at_] 50)) (Obj.cells #[Value.int IntKind.i64 31, Value.int IntKind.i64 u.at_, Value.iface te pe] 73))
             · have hdd : decide ((24 : Int) < u.depth) = false := by simp; omega
               have HD := Lib.hid hd
               clear hd
               go_wp2
               go_roundg (l.length - (k + 1))
               case measure => have := HGG2.out; omega
               case rel =>
                 refine ⟨k + 1, by go_num, by omega, rfl, HBQ.out.alloc sq _, fun i n hi hin => ?_⟩
                 by_cases hik : i = k
                 · subst hik
                   rw [HU.out] at hin
                   cases hin
                   exact HD.out
                 · exact HSM.out i n (by omega) hin
           · have hI := HI2.out
             have y1 : wr.cell? ⟨n0, 0, none⟩ = some (.slice b l.length c) := (HBQ.out.cell (p := ⟨n0, 0, none⟩) (by have := hI.size; show n0 < _; omega)).trans x1
             have y2 : wr.frozen? ⟨n0, 0, none⟩ = false := (HBQ.out.frozen (p := ⟨n0, 0, none⟩) (by have := hI.size; show n0 < _; omega)).trans x2
             have y3 : wr.cell? ⟨n0 + 1, 0, none⟩ = some .nilIface := (HBQ.out.cell (p := ⟨n0 + 1, 0, none⟩) zl).trans z3
             have y4 : wr.frozen? ⟨n0 + 1, 0, none⟩ = false := (HBQ.out.frozen (p := ⟨n0 + 1, 0, none⟩) zl).trans zf3
             have HIH := Lib.hid hI
             clear hI
             go_wp2
             rw [<- HQ.out]
             have hn := HN.out
             have kw := HKW.out
             have sq := HBQ.out.size
             have skw := kw.size
             have hkl : k = l.length := by omega
             have hout : outOfRes (Res.ok ts j) = .tree l := by
               show outOf (flatTs ts 1) = _
               rw [HLL.out]
               unfold outOf
               rw [if_neg hm]
               have : l.find? (fun n => decide (24 < n.depth)) = none := by
                 rw [List.find?_eq_none]
                 intro x hx hd
                 obtain ⟨i, hi, hix⟩ := List.getElem_of_mem hx
                 have h9 := HSM.out i x (by omega) (by rw [List.getElem?_eq_getElem hi, hix])
                 have h10 : 24 < x.depth := by simpa using hd
                 omega
               rw [this]
             rw [hout]
             have g1 := grown_set wr n0 0 (.slice b l.length c)
             have g2 := grown_set (wr.setCell ⟨n0, 0, none⟩ (.slice b l.length c)) (n0 + 1) 0 .nilIface
             have p2 : ((wr.setCell ⟨n0, 0, none⟩ (.slice b l.length c)).setCell ⟨n0 + 1, 0, none⟩ .nilIface).cell? ⟨n0, 0, none⟩ = some (.slice b l.length c) := by simp [go_sem, y1]
             have p3 : ((wr.setCell ⟨n0, 0, none⟩ (.slice b l.length c)).setCell ⟨n0 + 1, 0, none⟩ .nilIface).cell? ⟨n0 + 1, 0, none⟩ = some .nilIface := by simp [go_sem, y3]
             have s1 := g1.size
             have s2 := g2.size
             refine leave_tree te pe w _ _ n0 l b c rfl rfl ⟨(HBQ.out.os.trans kw.os), (HBQ.out.output.trans kw.out), by omega, fun x hx => ?_⟩ p2 p3 ?_
             · exact (g2.block x (by omega) (by simp; omega)).trans ((g1.block x (by omega) (by simp; omega)).trans ((HBQ.out.block x (by omega)).trans (kw.block x hx)))
             · have ho := HIH.out.own
               have w3s := HIH.out.size
               have hrow := fun y (hy : (Value.slice b l.length c).ownBlock = some y) => ho.lt y hy
               have ho1 : wr.ownsRow w3.heap.size 50 6 (.slice b l.length c) l.length (ndCells l) := by
                 refine ⟨ho.1, ho.2.imp id fun ⟨g', cap, cur, h1, h2, h3, h4⟩ => ⟨g', cap, cur, h1, h2, ?_, h4⟩⟩
                 rw [HBQ.out.block g' (Array.getElem?_eq_some_iff.1 h3).1]
                 exact h3
               have ne2 : ∀ z : Nat, z <= n0 + 1 -> z < w3.heap.size -> ((Value.slice b l.length c).ownBlock = none \/ (Value.slice b l.length c).ownBlock ≠ some z) := fun z h1 h2 => by
                 cases hv : (Value.slice b l.length c).ownBlock with
                 | none => exact .inl rfl
                 | some y => right; have := hrow y hv; simp; omega
               have ho2 := (ho1.kept g1 (ne2 n0 (by omega) hn3)).kept g2 (ne2 (n0 + 1) (by omega) (by omega))
               exact ⟨ho2.1, ho2.2.imp id fun ⟨g', cap, cur, h1, h2, h3⟩ => ⟨g', cap, cur, h1, by omega, h3⟩⟩
end Go.Proofs.YtonmcakdofbjiaaGreatDoor
namespace Go.Proofs.YtonmcakdofbjiaaGreatDoor
open Go.RowKit Go.Bsd
theorem rd_ctx {C C' : Ctx} (hl : C.l = C'.l) (he : C.e = C'.e) : ∀ (f : Nat) (nt : NT) (i : Nat), rd C f nt i = rd C' f nt i := by
 intro f
 induction f with
 | zero => intro nt i; cases nt <;> rfl
 | succ f ih =>
   intro nt i
   have h1 : ∀ s i, wantR C s i = wantR C' s i := fun s i => by unfold wantR; rw [hl, he]
   have h2 : ∀ i, nameR C i = nameR C' i := fun i => by unfold nameR; rw [hl, he]
   have h3 : ∀ i, numberR C i = numberR C' i := fun i => by unfold numberR; rw [hl, he]
   cases nt <;> simp only [rd, ih, h1, h2, h3, hl, he] <;> rfl
def ctx0 (s : ByteArray) : Ctx := ⟨goodOf (pieces s), s.size, 0, undef, 0, 0⟩
def ParsesTo (s : ByteArray) (o : POut) : Prop :=
 if 8192 < s.size then o = .fault 21 8192
 else if (badOf (pieces s)).1 ≠ 0 then o = .fault (badOf (pieces s)).1 (badOf (pieces s)).2
 else ∃ f r, rd (ctx0 s) f .prog 0 = some r /\ o = outOfRes r
theorem parses_ex (s : ByteArray) : ∃ o, ParsesTo s o := by
 unfold ParsesTo
 split
 · exact ⟨_, rfl⟩
 · split
   · exact ⟨_, rfl⟩
   · obtain ⟨f, r, h⟩ := rd_ends (ctx0 s) (meas (ctx0 s) .prog 0 + 1) .prog 0 (Nat.lt_succ_self _)
     exact ⟨_, f, r, h, rfl⟩
theorem parses_one {s : ByteArray} {o o' : POut} (h : ParsesTo s o) (h' : ParsesTo s o') : o = o' := by
 unfold ParsesTo at h h'
 split at h
 · rename_i h1; rw [if_pos h1] at h'; rw [h, h']
 · rename_i h1
   rw [if_neg h1] at h'
   split at h
   · rename_i h2; rw [if_pos h2] at h'; rw [h, h']
   · rename_i h2
     rw [if_neg h2] at h'
     obtain ⟨f, r, a, rfl⟩ := h
     obtain ⟨f', r', b, rfl⟩ := h'
     rw [rd_same _ a b]
theorem run_callf {f : FuncId} {fn : Func} (hf : Tryz.prog.funcs[f]? = some fn) (hn : (fn.name == "runtime.NumGoroutine") = false) (hb : fn.body.isNone = false) {o : Oper} {ags : Array Operand} {ts : Array TypeId} (ho : o.op = .call { callee := .value (.func f), args := ags, argTypes := ts }) (a : Act) (w : World) :
   (execOp a.eval o).run Tryz.prog w = .ok (.enter f (ags.map a.eval)) w := by
 unfold execOp
 rw [ho]
 simp [resolve, Deferred.ofValue, Act.eval, evalT, invoke]
 exact callFunc_of hf hn hb _ w
theorem listB_fn (hP : TameProg Tryz.prog) {Q : Exit -> Act -> World -> Prop} {a : Act} {w : World} {ops : Array Oper} {o : Oper} {l : List Oper} {f : FuncId} {fn : Func} {ags : Array Operand} {ts : Array TypeId} {args : Array Value} (hf : Tryz.prog.funcs[f]? = some fn) (hn : (fn.name == "runtime.NumGoroutine") = false) (hb : fn.body.isNone = false)
   (hw : Region.wanted o (yielded ops a.tmps) = true) (ho : o.op = .call { callee := .value (.func f), args := ags, argTypes := ts }) (ha : ags.map a.eval = args)
   (h : CallsB Tryz.prog f args w fun
     | .returned v, w' => listB Tryz.prog ops Q l (a.put o.dst v) w'
     | .panicked chain, w' => Q (.panic chain) a w'
     | .outgrown, _ => False) : listB Tryz.prog ops Q (o :: l) a w := by
 subst ha
 exact listB_call hP hw (fun T d => run_callf hf hn hb ho a _) h
noncomputable def pk1 : Code := seqL (seqR pk0)
theorem pk1_is : ∃ id, pk1 = .region id (regOps pk1) false := ⟨_, rfl⟩
theorem parse_any (hP : TameProg Tryz.prog) (s : ByteArray) (hs : s.size <= 9223372036854775807) (te : TypeId) (pe : Value) (w : World) (hv : VarsOk w) (ce : w.cell? ⟨0, 0, none⟩ = some (.iface te pe)) (o : POut) (ho : ParsesTo s o) :
   CallsB Tryz.prog 14 #[.string s] w (ParPost te pe w o) := by
 refine callsB_of_tailB Tryz.func14 (c := pk0) rfl ?_
 have e0 : pk0 = .seq (seqL pk0) (.seq pk1 pk2) := rfl
 rw [e0]
 have ha : (#[Value.string s] ++ Array.replicate (Tryz.f14.ntmps - #[Value.string s].size) undef) = #[.string s, undef, undef, undef, undef, undef, undef, undef, undef, undef, undef, undef, undef, undef, undef, undef, undef, undef, undef, undef, undef, undef, undef, undef, undef, undef, undef, undef, undef, undef, undef, undef, undef, undef, undef, undef, undef, undef, undef, undef, undef, undef, undef, undef, undef, undef, undef, undef, undef, undef, undef, undef, undef, undef, undef, undef, undef, undef, undef, undef, undef, undef, undef, undef, undef] := by
   simp only [Tryz.ntmps14]
   simp [Array.replicate_succ]
 rw [ha]
 have hR : ∀ w', ¬ ParPost te pe w o .outgrown w' := fun w' h => h
 refine tailB_seq hP Tryz.func14 hR (wpB_lift hP fun T d => ?_)
 generalize hB : bodyPost Tryz.prog Tryz.f14 (ParPost te pe w o) = B
 generalize hY : (Code.seq pk1 pk2) = Y
 have HV := Lib.hid hv
 have HO := Lib.hid ho
 have HCE := Lib.hid ce
 clear hv ho ce
 simp only [seqL, pk0, Tryz.f14, Option.getD_some]
 go_wp2
 subst hY
 rw [show (((re w T d).alloc (Obj.cells #[Value.slice none 0 0] 25)).alloc (Obj.cells #[Value.nilIface] 27)) = re ((w.alloc (Obj.cells #[Value.slice none 0 0] 25)).alloc (Obj.cells #[Value.nilIface] 27)) T d from rfl]
 subst hB
 generalize hW : (w.alloc (Obj.cells #[Value.slice none 0 0] 25)).alloc (Obj.cells #[Value.nilIface] 27) = W
 have k1 : Kin w W := by
   have g1 := World.grownBy_alloc w (Obj.cells #[Value.slice none 0 0] 25) none
   have g2 := World.grownBy_alloc (w.alloc (Obj.cells #[Value.slice none 0 0] 25)) (Obj.cells #[Value.nilIface] 27) none
   have s1 := g1.size
   have s2 := g2.size
   subst hW
   exact ⟨rfl, rfl, by omega, fun k hk => (g2.block k (by omega) (by simp)).trans (g1.block k hk (by simp))⟩
 have c2 : W.cell? ⟨w.heap.size, 0, none⟩ = some (.slice none 0 0) := by subst hW; simp [go_sem]
 have c3 : W.cell? ⟨w.heap.size + 1, 0, none⟩ = some .nilIface := by subst hW; simp [go_sem]
 have f2 : W.frozen? ⟨w.heap.size, 0, none⟩ = false := by subst hW; simp [go_sem]
 have f3 : W.frozen? ⟨w.heap.size + 1, 0, none⟩ = false := by subst hW; simp [go_sem]
 have l3 : w.heap.size + 1 < W.heap.size := by subst hW; simp
 have hz : 0 < w.heap.size := World.block_lt_of_cell? w ⟨0, 0, none⟩ HCE.out
 clear hW ha e0
 intro cs
 refine Bes.tape (T := T) (d := d) ?_
 revert cs
 show tailB Tryz.prog 14 _ _ _ W
 refine tailB_seq hP Tryz.func14 hR ?_
 obtain ⟨id, hid⟩ := pk1_is
 rw [hid]
 generalize hB : bodyPost Tryz.prog Tryz.f14 (ParPost te pe w o) = B
 clear hB hid
 generalize hX : pk2 = X
 simp only [pk1, pk0, seqL, seqR, regOps, Tryz.f14, Option.getD_some]
 subst hX
 refine wpB_region hP (l := [_, _, _, _, _, _, _, _, _]) ?_
 refine listB_cut hP [_] [_, _, _, _, _, _, _, _] fun T d => ?_
 generalize hN : listB Tryz.prog _ _ _ = N
 go_wp2
 subst hN
 refine listB_tape ?_
 refine listB_fn hP Tryz.func40 (by kernel_rfl) (by kernel_rfl) rfl rfl (args := #[.string s]) (by simp [Act.eval, evalT]) ((tokens_any hP s hs W (HV.out.kin k1)).mono ?_)
 rintro e w1 hpost
 cases e with
 | outgrown => exact hpost.elim
 | panicked _ => exact hpost.elim
 | returned v =>
   obtain ⟨kin, hres⟩ := hpost
   have kw : Kin w w1 := k1.trans kin
   have d2 : w1.cell? ⟨w.heap.size, 0, none⟩ = some (.slice none 0 0) := (kin.cell (by omega)).trans c2
   have d3 : w1.cell? ⟨w.heap.size + 1, 0, none⟩ = some .nilIface := (kin.cell l3).trans c3
   have g2 : w1.frozen? ⟨w.heap.size, 0, none⟩ = false := (kin.frozen (by omega)).trans f2
   have g3 : w1.frozen? ⟨w.heap.size + 1, 0, none⟩ = false := (kin.frozen l3).trans f3
   have l4 : w.heap.size + 1 < w1.heap.size := by have := kin.size; omega
   have ce1 : w1.cell? ⟨0, 0, none⟩ = some (.iface te pe) := (kw.cell hz).trans HCE.out
   have hsz := k1.size
   have hO := HO.out
   unfold ParsesTo at hO
   unfold TokRes at hres
   show listB Tryz.prog _ _ _ _ w1
   by_cases h1 : 8192 < s.size
   · rw [if_pos h1] at hres hO
     subst hres hO
     have hfin := fun T d => parse_bad s te pe w (re w1 T d) w.heap.size (.slice none 0 0) 21 8192 (by decide) rfl (Kin.mk kw.os kw.out kw.size kw.block) d2 d3 g2 g3 l4 ce1
     have HT := Lib.hid (tailB_lone hP Tryz.func14 hR hfin)
     clear hfin d2 d3 g2 g3 l4 ce1 kw kin h1 c2 c3 f2 f3 l3
     generalize hX : pk2 = X at HT ⊢
     clear hX
     generalize hN : Exit.then (tailB Tryz.prog 14 _ X) B = N
     refine listB_lift hP fun T d => ?_
     go_wp2
     subst hN
     exact HT.out
   · rw [if_neg h1] at hres hO
     by_cases h2 : (badOf (pieces s)).1 ≠ 0
     · rw [if_pos h2] at hres hO
       subst hres hO
       have hfin := fun T d => parse_bad s te pe w (re w1 T d) w.heap.size (.slice none 0 0) (badOf (pieces s)).1 (badOf (pieces s)).2 h2 rfl (Kin.mk kw.os kw.out kw.size kw.block) d2 d3 g2 g3 l4 ce1
       have HT := Lib.hid (tailB_lone hP Tryz.func14 hR hfin)
       clear hfin d2 d3 g2 g3 l4 ce1 kw kin h1 c2 c3 f2 f3 l3
       generalize hX : pk2 = X at HT ⊢
       clear hX
       generalize (badOf (pieces s)).1 = x1 at HT ⊢
       generalize (badOf (pieces s)).2 = x2 at HT ⊢
       generalize hN : Exit.then (tailB Tryz.prog 14 _ X) B = N
       refine listB_lift hP fun T d => ?_
       go_wp2
       subst hN
       exact HT.out
     · rw [if_neg h2] at hres hO
       obtain ⟨sl, rfl, hown⟩ := hres
       obtain ⟨f, r, hr, rfl⟩ := hO
       have hL : (goodOf (pieces s)).length <= 8193 := by
         have a1 := pieces_length s
         have a2 : (goodOf (pieces s)).length <= (pieces s).length := List.length_filter_le _ _
         omega
       have hfin := fun T d => parse_good s (by omega) te pe w (re w1 T d) w.heap.size f sl 0 r ((rd_ctx (C := ctxOf s te pe w1.heap.size sl) (C' := ctx0 s) rfl rfl f .prog 0).trans hr) rfl (Kin.mk kw.os kw.out kw.size kw.block) d2 d3 g2 g3 l4 ce1 W.heap.size hown hL
       have HT := Lib.hid (tailB_lone hP Tryz.func14 hR hfin)
       clear hfin d2 d3 g2 g3 l4 ce1 kw kin h1 c2 c3 f2 f3 l3 hown hr
       generalize hX : pk2 = X at HT ⊢
       clear hX
       generalize hN : Exit.then (tailB Tryz.prog 14 _ X) B = N
       refine listB_lift hP fun T d => ?_
       go_wp2
       subst hN
       exact HT.out
end Go.Proofs.YtonmcakdofbjiaaGreatDoor
namespace Go.Proofs.YtonmcakdofbjiaaGreatDoor
open Go.RowKit
/-! ### the last place -/
def lastIx {α : Type} (p : α -> Bool) : List α -> Option Nat
 | [] => none
 | x :: l => match lastIx p l with
   | some i => some (i + 1)
   | none => if p x then some 0 else none
theorem lastIx_none {α : Type} {p : α -> Bool} : ∀ {l : List α}, lastIx p l = none -> ∀ (j : Nat) (x : α), l[j]? = some x -> p x = false
 | [], _, j, x, h => by simp at h
 | y :: l, h, j, x, hx => by
   unfold lastIx at h
   cases hl : lastIx p l with
   | some k => rw [hl] at h; simp at h
   | none =>
     rw [hl] at h
     simp at h
     cases j with
     | zero => simp at hx; subst hx; exact h
     | succ j => exact lastIx_none hl j x (by simpa using hx)
theorem lastIx_some {α : Type} {p : α -> Bool} : ∀ {l : List α} {i : Nat}, lastIx p l = some i -> (∃ x, l[i]? = some x /\ p x = true) /\ ∀ (j : Nat) (x : α), i < j -> l[j]? = some x -> p x = false
 | [], i, h => by simp [lastIx] at h
 | x :: l, i, h => by
   unfold lastIx at h
   cases hl : lastIx p l with
   | some k =>
     rw [hl] at h
     simp at h
     subst h
     obtain ⟨⟨y, h1, h2⟩, h3⟩ := lastIx_some hl
     refine ⟨⟨y, by simpa using h1, h2⟩, fun j z hj hz => ?_⟩
     cases j with
     | zero => omega
     | succ j => exact h3 j z (by omega) (by simpa using hz)
   | none =>
     rw [hl] at h
     simp at h
     obtain ⟨hp, rfl⟩ := h
     have hn := lastIx_none hl
     refine ⟨⟨x, rfl, hp⟩, fun j z hj hz => ?_⟩
     cases j with
     | zero => omega
     | succ j => exact hn j z (by simpa using hz)
theorem lastIx_of {α : Type} {p : α -> Bool} {l : List α} {i : Nat} {x : α} (h1 : l[i]? = some x) (h2 : p x = true) (h3 : ∀ (j : Nat) (y : α), i < j -> l[j]? = some y -> p y = false) : lastIx p l = some i := by
 cases h : lastIx p l with
 | none => rw [lastIx_none h i x h1] at h2; cases h2
 | some k =>
   obtain ⟨⟨y, k1, k2⟩, k3⟩ := lastIx_some h
   rcases Nat.lt_trichotomy i k with h' | h' | h'
   · rw [h3 k y h' k1] at k2; cases k2
   · rw [h']
   · rw [k3 i x h' h1] at h2; cases h2
theorem lastIx_of_none {α : Type} {p : α -> Bool} {l : List α} (h : ∀ (j : Nat) (y : α), l[j]? = some y -> p y = false) : lastIx p l = none := by
 cases hl : lastIx p l with
 | none => rfl
 | some k =>
   obtain ⟨⟨y, k1, k2⟩, _⟩ := lastIx_some hl
   rw [h k y k1] at k2; cases k2
theorem lastIx_lt {α : Type} {p : α -> Bool} {l : List α} {i : Nat} (h : lastIx p l = some i) : i < l.length := by
 obtain ⟨⟨x, h1, _⟩, _⟩ := lastIx_some h
 exact (List.getElem?_eq_some_iff.1 h1).1
/-! ### a node's fields -/
def isExprB (k : Int) : Bool := decide (10 <= k) && decide (k <= 15)
def isStmtB (k : Int) : Bool := decide (2 <= k) && decide (k <= 8)
def okAt (s : ByteArray) (j : Nat) : Bool := if h : j < s.size then isLetter (s[j]).toNat || (decide (j ≠ 0) && isDigit (s[j]).toNat) else true
def nameableB (s : ByteArray) : Bool := (List.range s.size).all (okAt s) && decide (0 < s.size) && decide (s.size <= 16) && !reservedB s
def fieldsB (n : Nd) : Bool :=
 if n.kind = 0 \/ n.kind = 2 \/ n.kind = 3 \/ n.kind = 4 \/ n.kind = 12 \/ n.kind = 13 then nameableB n.name && decide (n.num = 0) && decide (n.op = 0)
 else if n.kind = 1 then nameableB n.name && decide (0 <= n.num) && decide (n.op = 0)
 else if n.kind = 10 then n.name.toList.isEmpty && decide (0 <= n.num) && decide (n.op = 0)
 else if n.kind = 11 then n.name.toList.isEmpty && (decide (n.num = 0) || decide (n.num = 1)) && decide (n.op = 0)
 else if n.kind = 14 then n.name.toList.isEmpty && decide (n.num = 0) && (decide (n.op = 1) || decide (n.op = 2))
 else if n.kind = 15 then n.name.toList.isEmpty && decide (n.num = 0) && (decide (3 <= n.op) && decide (n.op <= 15))
 else if n.kind = 5 \/ n.kind = 6 \/ n.kind = 7 \/ n.kind = 8 \/ n.kind = 9 then n.name.toList.isEmpty && decide (n.num = 0) && decide (n.op = 0)
 else false
/-! ### the program's way -/
structure Hold where
 kind : Int
 depth : Int
 wants : List Int
 blocks : Int
def wantedOf (k : Int) : List Int :=
 if k = 2 \/ k = 5 \/ k = 13 \/ k = 14 then [0] else if k = 3 \/ k = 15 then [0, 0] else if k = 7 \/ k = 8 then [0, 1] else []
def wantIx (o : List Hold) : Option Nat := lastIx (fun h => !h.wants.isEmpty) o
def heldIx (o : List Hold) (d : Int) : Option Nat := lastIx (fun h => decide (h.depth = d)) o
def cutN {α : Type} (p : α -> Bool) (l : List α) : Nat := match lastIx p l with
 | some i => i + 1
 | none => 0
theorem cutN_le {α : Type} (p : α -> Bool) (l : List α) : cutN p l <= l.length := by
 unfold cutN
 cases h : lastIx p l with
 | none => exact Nat.zero_le _
 | some i => exact lastIx_lt h
theorem cutN_of {α : Type} {p : α -> Bool} {l : List α} {k : Nat} (h1 : k = 0 \/ ∃ x, l[k - 1]? = some x /\ p x = true) (h2 : ∀ (j : Nat) (y : α), k <= j -> l[j]? = some y -> p y = false) : cutN p l = k := by
 unfold cutN
 rcases h1 with rfl | ⟨x, hx, hp⟩
 · rw [lastIx_of_none fun j y hy => h2 j y (Nat.zero_le _) hy]
 · by_cases hk : k = 0
   · subst hk
     rw [h2 0 x (Nat.le_refl _) hx] at hp; cases hp
   · rw [lastIx_of hx hp fun j y hj hy => h2 j y (by omega) hy]
     show k - 1 + 1 = k
     omega
theorem cutN_last {α : Type} (p : α -> Bool) (l : List α) : cutN p l = 0 \/ ∃ x, l[cutN p l - 1]? = some x /\ p x = true := by
 unfold cutN
 cases h : lastIx p l with
 | none => exact .inl rfl
 | some i => obtain ⟨⟨x, h1, h2⟩, _⟩ := lastIx_some h; exact .inr ⟨x, h1, h2⟩
theorem cutN_behind {α : Type} (p : α -> Bool) (l : List α) : ∀ (j : Nat) (y : α), cutN p l <= j -> l[j]? = some y -> p y = false := by
 unfold cutN
 cases h : lastIx p l with
 | none => exact fun j y _ hy => lastIx_none h j y hy
 | some i => exact fun j y hj hy => (lastIx_some h).2 j y hj hy
def popF (d : Int) (o : List Hold) : List Hold := o.take (cutN (fun h => decide (h.depth < d)) o)
def takeF (o : List Hold) (heads : Bool) (n : Nd) : Option (List Hold) :=
 match wantIx o with
 | some w => match o[w]? with
   | some h => match h.wants with
     | x :: rest => if n.depth ≠ h.depth + 1 \/ (x = 0 /\ isExprB n.kind = false) \/ (x = 1 /\ n.kind ≠ 9) then none else some (o.set w { h with wants := rest, blocks := if x = 1 then h.blocks + 1 else h.blocks })
     | [] => none
   | none => none
 | none =>
   if n.kind = 0 \/ n.kind = 1 then (if n.depth ≠ 1 \/ heads = false then none else some o)
   else if isStmtB n.kind then
     if n.depth = 1 then some o
     else match heldIx o (IntKind.wrap .i64 (n.depth - 1)) with
       | some u => match o[u]? with
         | some h => if h.kind = 9 then some o else none
         | none => none
       | none => none
   else if n.kind = 9 then
     match heldIx o (IntKind.wrap .i64 (n.depth - 1)) with
     | some u => match o[u]? with
       | some h => if h.kind = 7 /\ h.blocks = 1 then some (o.set u { h with blocks := h.blocks + 1 }) else none
       | none => none
     | none => none
   else none
def standF (o : List Hold) (heads : Bool) (n : Nd) : Option (List Hold × Bool) :=
 if fieldsB n = false then none else
 match takeF o heads n with
 | none => none
 | some o1 => some (popF n.depth o1 ++ [⟨n.kind, n.depth, wantedOf n.kind, 0⟩], if n.kind = 0 \/ n.kind = 1 then heads else false)
def shapeG (o : List Hold) (heads : Bool) (i : Nat) : List Nd -> Int × Int
 | [] => if (wantIx o).isSome then (33, i) else (0, 0)
 | n :: l => match standF o heads n with
   | none => (33, i)
   | some (o', h') => if 24 < n.depth then (31, i) else shapeG o' h' (i + 1) l
def shapeF (l : List Nd) : Int × Int := if 300 < l.length then (32, 300) else shapeG [] true 0 l
/-! ### the document's way -/
structure Opn where
 depth : Int
 kind : Int
 has : Int
def rwants (k : Int) : Int := if k = 2 \/ k = 5 \/ k = 13 \/ k = 14 then 1 else if k = 3 \/ k = 7 \/ k = 8 \/ k = 15 then 2 else 0
def rholds (o : Opn) (k : Int) : Bool :=
 if o.kind = 9 then isStmtB k
 else if o.kind = 7 then (decide (o.has = 0) && isExprB k) || ((decide (o.has = 1) || decide (o.has = 2)) && decide (k = 9))
 else if o.kind = 8 then (decide (o.has = 0) && isExprB k) || (decide (o.has = 1) && decide (k = 9))
 else decide (o.has < rwants o.kind) && isExprB k
def lacks (t : Opn) : Bool := decide (t.has < rwants t.kind)
def rcut (d : Int) (st : List Opn) : Nat := cutN (fun t => decide (t.depth < d)) st
def rstandF (st : List Opn) (begun : Bool) (n : Nd) : Option (List Opn × Bool) :=
 if (st.drop (rcut n.depth st)).any lacks = true then none
 else if n.depth ≠ (rcut n.depth st : Int) + 1 \/ fieldsB n = false then none
 else match rcut n.depth st with
   | 0 =>
     if ((n.kind = 0 \/ n.kind = 1) /\ begun = true) \/ (¬(n.kind = 0 \/ n.kind = 1) /\ isStmtB n.kind = false) then none
     else some ([], begun || !(decide (n.kind = 0 \/ n.kind = 1)))
   | i + 1 => match st[i]? with
     | none => none
     | some t => if rholds t n.kind = false then none else some (st.take i ++ [{ t with has := t.has + 1 }], begun)
def rpush (st : List Opn) (n : Nd) : List Opn := if 0 < rwants n.kind \/ n.kind = 9 then st ++ [⟨n.depth, n.kind, 0⟩] else st
def rshapeG (st : List Opn) (begun : Bool) (i : Nat) : List Nd -> Int × Int
 | [] => if st.any lacks = true then (33, i) else (0, 0)
 | n :: l => match rstandF st begun n with
   | none => (33, i)
   | some (st', b') => if 24 < n.depth then (31, i) else rshapeG (rpush st' n) b' (i + 1) l
def rshapeF (l : List Nd) : Int × Int := if 300 < l.length then (32, 300) else rshapeG [] false 0 l
end Go.Proofs.YtonmcakdofbjiaaGreatDoor
