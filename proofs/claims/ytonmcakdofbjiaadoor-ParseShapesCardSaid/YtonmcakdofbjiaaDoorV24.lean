/-
  The parts: base Shp1 base Shp2 base Shp3 base Shp4
-/
import Derived.Test.YtonmcakdofbjiaaDoorV18
set_option linter.unusedVariables false
set_option linter.unusedSimpArgs false
set_option linter.unusedSectionVars false
set_option linter.unnecessarySimpa false
set_option maxRecDepth 100000
set_option maxHeartbeats 8000000
namespace Go.Proofs.YtonmcakdofbjiaaDoor
open Go.RowKit
/-! ### the last place -/
def lastIx {α : Type} (p : α -> Bool) : List α -> Option Nat
 | [] => none
 | x :: l => match lastIx p l with
   | some i => some (i + 1)
   | none => if p x then some 0 else none
theorem lastIx_none {α : Type} {p : α -> Bool} : ∀ {l : List α}, lastIx p l = none -> ∀ (j : Nat) (x : α), l[j]? = some x -> p x = false
 | [], _, j, x, h => by simp at h
 | y :: l, h, j, x, hx => by
   unfold lastIx at h
   cases hl : lastIx p l with
   | some k => rw [hl] at h; simp at h
   | none =>
     rw [hl] at h
     simp at h
     cases j with
     | zero => simp at hx; subst hx; exact h
     | succ j => exact lastIx_none hl j x (by simpa using hx)
theorem lastIx_some {α : Type} {p : α -> Bool} : ∀ {l : List α} {i : Nat}, lastIx p l = some i -> (∃ x, l[i]? = some x /\ p x = true) /\ ∀ (j : Nat) (x : α), i < j -> l[j]? = some x -> p x = false
 | [], i, h => by simp [lastIx] at h
 | x :: l, i, h => by
   unfold lastIx at h
   cases hl : lastIx p l with
   | some k =>
     rw [hl] at h
     simp at h
     subst h
     obtain ⟨⟨y, h1, h2⟩, h3⟩ := lastIx_some hl
     refine ⟨⟨y, by simpa using h1, h2⟩, fun j z hj hz => ?_⟩
     cases j with
     | zero => omega
     | succ j => exact h3 j z (by omega) (by simpa using hz)
   | none =>
     rw [hl] at h
     simp at h
     obtain ⟨hp, rfl⟩ := h
     have hn := lastIx_none hl
     refine ⟨⟨x, rfl, hp⟩, fun j z hj hz => ?_⟩
     cases j with
     | zero => omega
     | succ j => exact hn j z (by simpa using hz)
theorem lastIx_of {α : Type} {p : α -> Bool} {l : List α} {i : Nat} {x : α} (h1 : l[i]? = some x) (h2 : p x = true) (h3 : ∀ (j : Nat) (y : α), i < j -> l[j]? = some y -> p y = false) : lastIx p l = some i := by
 cases h : lastIx p l with
 | none => rw [lastIx_none h i x h1] at h2; cases h2
 | some k =>
   obtain ⟨⟨y, k1, k2⟩, k3⟩ := lastIx_some h
   rcases Nat.lt_trichotomy i k with h' | h' | h'
   · rw [h3 k y h' k1] at k2; cases k2
   · rw [h']
   · rw [k3 i x h' h1] at h2; cases h2
theorem lastIx_of_none {α : Type} {p : α -> Bool} {l : List α} (h : ∀ (j : Nat) (y : α), l[j]? = some y -> p y = false) : lastIx p l = none := by
 cases hl : lastIx p l with
 | none => rfl
 | some k =>
   obtain ⟨⟨y, k1, k2⟩, _⟩ := lastIx_some hl
   rw [h k y k1] at k2; cases k2
theorem lastIx_lt {α : Type} {p : α -> Bool} {l : List α} {i : Nat} (h : lastIx p l = some i) : i < l.length := by
 obtain ⟨⟨x, h1, _⟩, _⟩ := lastIx_some h
 exact (List.getElem?_eq_some_iff.1 h1).1
/-! ### a node's fields -/
def isExprB (k : Int) : Bool := decide (10 <= k) && decide (k <= 15)
def isStmtB (k : Int) : Bool := decide (2 <= k) && decide (k <= 8)
def okAt (s : ByteArray) (j : Nat) : Bool := if h : j < s.size then isLetter (s[j]).toNat || (decide (j ≠ 0) && isDigit (s[j]).toNat) else true
def nameableB (s : ByteArray) : Bool := (List.range s.size).all (okAt s) && decide (0 < s.size) && decide (s.size <= 16) && !reservedB s
def fieldsB (n : Nd) : Bool :=
 if n.kind = 0 \/ n.kind = 2 \/ n.kind = 3 \/ n.kind = 4 \/ n.kind = 12 \/ n.kind = 13 then nameableB n.name && decide (n.num = 0) && decide (n.op = 0)
 else if n.kind = 1 then nameableB n.name && decide (0 <= n.num) && decide (n.op = 0)
 else if n.kind = 10 then n.name.toList.isEmpty && decide (0 <= n.num) && decide (n.op = 0)
 else if n.kind = 11 then n.name.toList.isEmpty && (decide (n.num = 0) || decide (n.num = 1)) && decide (n.op = 0)
 else if n.kind = 14 then n.name.toList.isEmpty && decide (n.num = 0) && (decide (n.op = 1) || decide (n.op = 2))
 else if n.kind = 15 then n.name.toList.isEmpty && decide (n.num = 0) && (decide (3 <= n.op) && decide (n.op <= 15))
 else if n.kind = 5 \/ n.kind = 6 \/ n.kind = 7 \/ n.kind = 8 \/ n.kind = 9 then n.name.toList.isEmpty && decide (n.num = 0) && decide (n.op = 0)
 else false
/-! ### the program's way -/
structure Hold where
 kind : Int
 depth : Int
 wants : List Int
 blocks : Int
def wantedOf (k : Int) : List Int :=
 if k = 2 \/ k = 5 \/ k = 13 \/ k = 14 then [0] else if k = 3 \/ k = 15 then [0, 0] else if k = 7 \/ k = 8 then [0, 1] else []
def wantIx (o : List Hold) : Option Nat := lastIx (fun h => !h.wants.isEmpty) o
def heldIx (o : List Hold) (d : Int) : Option Nat := lastIx (fun h => decide (h.depth = d)) o
def cutN {α : Type} (p : α -> Bool) (l : List α) : Nat := match lastIx p l with
 | some i => i + 1
 | none => 0
theorem cutN_of {α : Type} {p : α -> Bool} {l : List α} {k : Nat} (h1 : k = 0 \/ ∃ x, l[k - 1]? = some x /\ p x = true) (h2 : ∀ (j : Nat) (y : α), k <= j -> l[j]? = some y -> p y = false) : cutN p l = k := by
 unfold cutN
 rcases h1 with rfl | ⟨x, hx, hp⟩
 · rw [lastIx_of_none fun j y hy => h2 j y (Nat.zero_le _) hy]
 · by_cases hk : k = 0
   · subst hk
     rw [h2 0 x (Nat.le_refl _) hx] at hp; cases hp
   · rw [lastIx_of hx hp fun j y hj hy => h2 j y (by omega) hy]
     show k - 1 + 1 = k
     omega
theorem cutN_last {α : Type} (p : α -> Bool) (l : List α) : cutN p l = 0 \/ ∃ x, l[cutN p l - 1]? = some x /\ p x = true := by
 unfold cutN
 cases h : lastIx p l with
 | none => exact .inl rfl
 | some i => obtain ⟨⟨x, h1, h2⟩, _⟩ := lastIx_some h; exact .inr ⟨x, h1, h2⟩
def popF (d : Int) (o : List Hold) : List Hold := o.take (cutN (fun h => decide (h.depth < d)) o)
def takeF (o : List Hold) (heads : Bool) (n : Nd) : Option (List Hold) :=
 match wantIx o with
 | some w => match o[w]? with
   | some h => match h.wants with
     | x :: rest => if n.depth ≠ h.depth + 1 \/ (x = 0 /\ isExprB n.kind = false) \/ (x = 1 /\ n.kind ≠ 9) then none else some (o.set w { h with wants := rest, blocks := if x = 1 then h.blocks + 1 else h.blocks })
     | [] => none
   | none => none
 | none =>
   if n.kind = 0 \/ n.kind = 1 then (if n.depth ≠ 1 \/ heads = false then none else some o)
   else if isStmtB n.kind then
     if n.depth = 1 then some o
     else match heldIx o (IntKind.wrap .i64 (n.depth - 1)) with
       | some u => match o[u]? with
         | some h => if h.kind = 9 then some o else none
         | none => none
       | none => none
   else if n.kind = 9 then
     match heldIx o (IntKind.wrap .i64 (n.depth - 1)) with
     | some u => match o[u]? with
       | some h => if h.kind = 7 /\ h.blocks = 1 then some (o.set u { h with blocks := h.blocks + 1 }) else none
       | none => none
     | none => none
   else none
def standF (o : List Hold) (heads : Bool) (n : Nd) : Option (List Hold × Bool) :=
 if fieldsB n = false then none else
 match takeF o heads n with
 | none => none
 | some o1 => some (popF n.depth o1 ++ [⟨n.kind, n.depth, wantedOf n.kind, 0⟩], if n.kind = 0 \/ n.kind = 1 then heads else false)
def shapeG (o : List Hold) (heads : Bool) (i : Nat) : List Nd -> Int × Int
 | [] => if (wantIx o).isSome then (33, i) else (0, 0)
 | n :: l => match standF o heads n with
   | none => (33, i)
   | some (o', h') => if 24 < n.depth then (31, i) else shapeG o' h' (i + 1) l
def shapeF (l : List Nd) : Int × Int := if 300 < l.length then (32, 300) else shapeG [] true 0 l
/-! ### the document's way -/
structure Opn where
 depth : Int
 kind : Int
 has : Int
def rwants (k : Int) : Int := if k = 2 \/ k = 5 \/ k = 13 \/ k = 14 then 1 else if k = 3 \/ k = 7 \/ k = 8 \/ k = 15 then 2 else 0
def rholds (o : Opn) (k : Int) : Bool :=
 if o.kind = 9 then isStmtB k
 else if o.kind = 7 then (decide (o.has = 0) && isExprB k) || ((decide (o.has = 1) || decide (o.has = 2)) && decide (k = 9))
 else if o.kind = 8 then (decide (o.has = 0) && isExprB k) || (decide (o.has = 1) && decide (k = 9))
 else decide (o.has < rwants o.kind) && isExprB k
def lacks (t : Opn) : Bool := decide (t.has < rwants t.kind)
def rcut (d : Int) (st : List Opn) : Nat := cutN (fun t => decide (t.depth < d)) st
def rstandF (st : List Opn) (begun : Bool) (n : Nd) : Option (List Opn × Bool) :=
 if (st.drop (rcut n.depth st)).any lacks = true then none
 else if n.depth ≠ (rcut n.depth st : Int) + 1 \/ fieldsB n = false then none
 else match rcut n.depth st with
   | 0 =>
     if ((n.kind = 0 \/ n.kind = 1) /\ begun = true) \/ (¬(n.kind = 0 \/ n.kind = 1) /\ isStmtB n.kind = false) then none
     else some ([], begun || !(decide (n.kind = 0 \/ n.kind = 1)))
   | i + 1 => match st[i]? with
     | none => none
     | some t => if rholds t n.kind = false then none else some (st.take i ++ [{ t with has := t.has + 1 }], begun)
def rpush (st : List Opn) (n : Nd) : List Opn := if 0 < rwants n.kind \/ n.kind = 9 then st ++ [⟨n.depth, n.kind, 0⟩] else st
def rshapeG (st : List Opn) (begun : Bool) (i : Nat) : List Nd -> Int × Int
 | [] => if st.any lacks = true then (33, i) else (0, 0)
 | n :: l => match rstandF st begun n with
   | none => (33, i)
   | some (st', b') => if 24 < n.depth then (31, i) else rshapeG (rpush st' n) b' (i + 1) l
def rshapeF (l : List Nd) : Int × Int := if 300 < l.length then (32, 300) else rshapeG [] false 0 l
end Go.Proofs.YtonmcakdofbjiaaDoor
namespace Go.Proofs.YtonmcakdofbjiaaDoor
open Go.RowKit
def cont (k : Int) : Bool := decide (0 < rwants k) || decide (k = 9)
inductive St : Hold -> Int -> Prop
 | one0 (h : Hold) (hk : h.kind = 2 \/ h.kind = 5 \/ h.kind = 13 \/ h.kind = 14) (hw : h.wants = [0]) : St h 0
 | one1 (h : Hold) (hk : h.kind = 2 \/ h.kind = 5 \/ h.kind = 13 \/ h.kind = 14) (hw : h.wants = []) : St h 1
 | two0 (h : Hold) (hk : h.kind = 3 \/ h.kind = 15) (hw : h.wants = [0, 0]) : St h 0
 | two1 (h : Hold) (hk : h.kind = 3 \/ h.kind = 15) (hw : h.wants = [0]) : St h 1
 | two2 (h : Hold) (hk : h.kind = 3 \/ h.kind = 15) (hw : h.wants = []) : St h 2
 | if0 (h : Hold) (hk : h.kind = 7) (hw : h.wants = [0, 1]) (hb : h.blocks = 0) : St h 0
 | if1 (h : Hold) (hk : h.kind = 7) (hw : h.wants = [1]) (hb : h.blocks = 0) : St h 1
 | if2 (h : Hold) (hk : h.kind = 7) (hw : h.wants = []) (hb : h.blocks = 1) : St h 2
 | if3 (h : Hold) (hk : h.kind = 7) (hw : h.wants = []) (hb : h.blocks = 2) : St h 3
 | while0 (h : Hold) (hk : h.kind = 8) (hw : h.wants = [0, 1]) : St h 0
 | while1 (h : Hold) (hk : h.kind = 8) (hw : h.wants = [1]) : St h 1
 | while2 (h : Hold) (hk : h.kind = 8) (hw : h.wants = []) : St h 2
 | block (h : Hold) (n : Int) (hk : h.kind = 9) (hw : h.wants = []) (hn : 0 <= n) : St h n
structure Good1 (j : Nat) (h : Hold) (r : Opn) : Prop where
 hd : h.depth = j + 1
 rd : r.depth = j + 1
 kd : r.kind = h.kind
 st : St h r.has
 bl : 0 <= h.blocks /\ h.blocks + (h.wants.count 1 : Nat) <= 2
theorem bl_next {b x : Int} {rest : List Int} (h : 0 <= b /\ b + ((x :: rest).count 1 : Nat) <= 2) : 0 <= (if x = 1 then b + 1 else b) /\ (if x = 1 then b + 1 else b) + (rest.count 1 : Nat) <= 2 := by
 by_cases e : x = 1
 · subst e
   rw [List.count_cons_self] at h
   rw [if_pos rfl]
   omega
 · rw [List.count_cons_of_ne e] at h
   rw [if_neg e]
   exact h
theorem St.lacks {h : Hold} {r : Opn} (hs : St h r.has) (hk : r.kind = h.kind) : lacks r = !h.wants.isEmpty := by
 unfold Go.Proofs.YtonmcakdofbjiaaDoor.lacks
 rw [hk]
 generalize r.has = x at hs
 cases hs with
 | one0 hk hw => rcases hk with hk | hk | hk | hk <;> rw [hk, hw] <;> rfl
 | one1 hk hw => rcases hk with hk | hk | hk | hk <;> rw [hk, hw] <;> rfl
 | two0 hk hw => rcases hk with hk | hk <;> rw [hk, hw] <;> rfl
 | two1 hk hw => rcases hk with hk | hk <;> rw [hk, hw] <;> rfl
 | two2 hk hw => rcases hk with hk | hk <;> rw [hk, hw] <;> rfl
 | if0 hk hw => rw [hk, hw]; rfl
 | if1 hk hw => rw [hk, hw]; rfl
 | if2 hk hw => rw [hk, hw]; rfl
 | if3 hk hw => rw [hk, hw]; rfl
 | while0 hk hw => rw [hk, hw]; rfl
 | while1 hk hw => rw [hk, hw]; rfl
 | while2 hk hw => rw [hk, hw]; rfl
 | block _ hk hw hn =>
   rw [hk, hw]
   have : ¬ x < rwants 9 := by show ¬ x < 0; omega
   simp [this]
structure Cr (c : List Hold) (st : List Opn) : Prop where
 len : st.length = c.length
 good : ∀ (j : Nat) (h : Hold) (r : Opn), c[j]? = some h -> st[j]? = some r -> Good1 j h r
 above : ∀ (i j : Nat) (h g : Hold), i < j -> c[i]? = some h -> h.wants ≠ [] -> c[j]? = some g -> isExprB g.kind = true
theorem Cr.take {c : List Hold} {st : List Opn} (h : Cr c st) (k : Nat) : Cr (c.take k) (st.take k) := by
 have e1 : ∀ {α : Type} (l : List α) (j : Nat) (x : α), (l.take k)[j]? = some x -> l[j]? = some x := fun l j x hx => by
   rw [List.getElem?_take] at hx
   split at hx
   · exact hx
   · cases hx
 exact ⟨by simp [h.len], fun j a b ha hb => h.good j a b (e1 _ _ _ ha) (e1 _ _ _ hb), fun i j a b hij ha hw hb => h.above i j a b hij (e1 _ _ _ ha) hw (e1 _ _ _ hb)⟩
theorem Cr.push {c : List Hold} {st : List Opn} (h : Cr c st) (a : Hold) (r : Opn) (hg : Good1 c.length a r) (hab : ∀ (i : Nat) (b : Hold), c[i]? = some b -> b.wants ≠ [] -> isExprB a.kind = true) : Cr (c ++ [a]) (st ++ [r]) := by
 have split1 : ∀ {α : Type} (l : List α) (y : α) (j : Nat) (x : α), (l ++ [y])[j]? = some x -> (j < l.length /\ l[j]? = some x) \/ (j = l.length /\ x = y) := fun l y j x hx => by
   by_cases hj : j < l.length
   · rw [List.getElem?_append_left hj] at hx; exact .inl ⟨hj, hx⟩
   · rw [List.getElem?_append_right (by omega)] at hx
     have : j - l.length = 0 := by
       rcases Nat.eq_zero_or_pos (j - l.length) with h0 | h0
       · exact h0
       · rw [List.getElem?_eq_none (by simp; omega)] at hx; cases hx
     rw [this] at hx
     exact .inr ⟨by omega, by simpa using hx.symm⟩
 refine ⟨by simp [h.len], fun j x y hx hy => ?_, fun i j x y hij hx hw hy => ?_⟩
 · rcases split1 _ _ _ _ hx with ⟨h1, h2⟩ | ⟨h1, rfl⟩
   · rcases split1 _ _ _ _ hy with ⟨h3, h4⟩ | ⟨h3, rfl⟩
     · exact h.good j x y h2 h4
     · have := h.len; omega
   · rcases split1 _ _ _ _ hy with ⟨h3, h4⟩ | ⟨h3, rfl⟩
     · have := h.len; omega
     · rw [h1]; exact hg
 · rcases split1 _ _ _ _ hy with ⟨h1, h2⟩ | ⟨h1, rfl⟩
   · rcases split1 _ _ _ _ hx with ⟨h3, h4⟩ | ⟨h3, rfl⟩
     · exact h.above i j x y hij h4 hw h2
     · omega
   · rcases split1 _ _ _ _ hx with ⟨h3, h4⟩ | ⟨h3, rfl⟩
     · exact hab i x h4 hw
     · omega
theorem cut_depth {α : Type} (f : α -> Int) (l : List α) (hl : ∀ (j : Nat) (x : α), l[j]? = some x -> f x = j + 1) (d : Int) : cutN (fun x => decide (f x < d)) l = min l.length (d - 1).toNat := by
 refine cutN_of ?_ fun j y hj hy => ?_
 · rcases Nat.eq_zero_or_pos (min l.length (d - 1).toNat) with h | h
   · exact .inl h
   · right
     have hlt : min l.length (d - 1).toNat - 1 < l.length := by omega
     refine ⟨l[min l.length (d - 1).toNat - 1], List.getElem?_eq_getElem hlt, ?_⟩
     have := hl _ _ (List.getElem?_eq_getElem hlt)
     exact decide_eq_true (by omega)
 · have := hl _ _ hy
   have := (List.getElem?_eq_some_iff.1 hy).1
   exact decide_eq_false (by omega)
structure ShI (o : List Hold) (heads : Bool) (st : List Opn) (begun : Bool) : Prop where
 open_ : ∃ c lf, o = c ++ lf /\ Cr c st /\ (lf = [] \/ ∃ h, lf = [h] /\ h.wants = [] /\ h.depth = c.length + 1 /\ cont h.kind = false /\ h.blocks = 0)
 heads : heads = !begun
 beg : st ≠ [] -> begun = true
theorem ShI.start : ShI [] true [] false := ⟨⟨[], [], rfl, ⟨rfl, fun j h r hh => by simp at hh, fun i j h g _ hh => by simp at hh⟩, .inl rfl⟩, rfl, fun h => absurd rfl h⟩
section
variable {o : List Hold} {heads begun : Bool} {st : List Opn}
theorem ShI.depth (h : ShI o heads st begun) : ∀ (j : Nat) (x : Hold), o[j]? = some x -> x.depth = j + 1 := by
 obtain ⟨⟨c, lf, rfl, hc, hlf⟩, _⟩ := h
 intro j x hx
 by_cases hj : j < c.length
 · rw [List.getElem?_append_left hj] at hx
   have hs : j < st.length := by rw [hc.len]; exact hj
   exact (hc.good j x _ hx (List.getElem?_eq_getElem hs)).hd
 · rw [List.getElem?_append_right (by omega)] at hx
   rcases hlf with rfl | ⟨g, rfl, h1, h2, _⟩
   · simp at hx
   · cases hk : j - c.length with
     | zero => rw [hk] at hx; simp at hx; subst hx; rw [h2]; omega
     | succ m => rw [hk] at hx; simp at hx
theorem ShI.small (h : ShI o heads st begun) : ∀ (j : Nat) (x : Hold), o[j]? = some x -> 0 <= x.blocks /\ x.blocks <= 2 := by
 obtain ⟨⟨c, lf, rfl, hc, hlf⟩, _⟩ := h
 intro j x hx
 by_cases hj : j < c.length
 · rw [List.getElem?_append_left hj] at hx
   have hs : j < st.length := by rw [hc.len]; exact hj
   have := (hc.good j x _ hx (List.getElem?_eq_getElem hs)).bl
   omega
 · rw [List.getElem?_append_right (by omega)] at hx
   rcases hlf with rfl | ⟨g, rfl, h1, h2, h3, h4⟩
   · simp at hx
   · cases hk : j - c.length with
     | zero => rw [hk] at hx; simp at hx; subst hx; rw [h4]; decide
     | succ m => rw [hk] at hx; simp at hx
theorem ShI.rdepth (h : ShI o heads st begun) : ∀ (j : Nat) (x : Opn), st[j]? = some x -> x.depth = j + 1 := by
 obtain ⟨⟨c, lf, rfl, hc, hlf⟩, _⟩ := h
 intro j x hx
 have hs : j < c.length := by rw [<- hc.len]; exact (List.getElem?_eq_some_iff.1 hx).1
 exact (hc.good j _ x (List.getElem?_eq_getElem hs) hx).rd
theorem ShI.rcut (h : ShI o heads st begun) (d : Int) : rcut d st = min st.length (d - 1).toNat := by
 unfold Go.Proofs.YtonmcakdofbjiaaDoor.rcut
 exact cut_depth (fun t : Opn => t.depth) st h.rdepth d
theorem any_lacks {c : List Hold} {st : List Opn} (h : Cr c st) (k : Nat) : (st.drop k).any lacks = true ↔ ∃ (j : Nat) (g : Hold), k <= j /\ c[j]? = some g /\ g.wants ≠ [] := by
 rw [List.any_eq_true]
 constructor
 · rintro ⟨r, hr, hl⟩
   obtain ⟨j, hj, rfl⟩ := List.getElem_of_mem hr
   simp only [List.length_drop] at hj
   have hlen := h.len
   have hc : k + j < c.length := by omega
   have hs : k + j < st.length := by omega
   refine ⟨k + j, c[k + j], by omega, List.getElem?_eq_getElem hc, fun e => ?_⟩
   have hg := h.good (k + j) _ _ (List.getElem?_eq_getElem hc) (List.getElem?_eq_getElem hs)
   rw [List.getElem_drop, hg.st.lacks hg.kd, e] at hl
   cases hl
 · rintro ⟨j, g, hj, hg, hw⟩
   have hc := (List.getElem?_eq_some_iff.1 hg).1
   have hs : j < st.length := by rw [h.len]; exact hc
   have hgd := h.good j g _ hg (List.getElem?_eq_getElem hs)
   refine ⟨st[j], List.mem_iff_getElem?.2 ⟨j - k, ?_⟩, ?_⟩
   · rw [List.getElem?_drop, show k + (j - k) = j from by omega]; exact List.getElem?_eq_getElem hs
   · rw [hgd.st.lacks hgd.kd]
     cases hgw : g.wants with
     | nil => exact absurd hgw hw
     | cons _ _ => rfl
theorem rholds_full {h : Hold} {r : Opn} (hs : St h r.has) (hk : r.kind = h.kind) (hw : h.wants = []) (k : Int) : rholds r k = ((decide (h.kind = 9) && isStmtB k) || (decide (h.kind = 7 /\ h.blocks = 1) && decide (k = 9))) := by
 unfold rholds
 rw [hk]
 generalize r.has = x at hs
 cases hs with
 | one0 hk hw' => rw [hw] at hw'; cases hw'
 | one1 hk hw' => rcases hk with hk | hk | hk | hk <;> rw [hk] <;> simp [rwants]
 | two0 hk hw' => rw [hw] at hw'; cases hw'
 | two1 hk hw' => rw [hw] at hw'; cases hw'
 | two2 hk hw' => rcases hk with hk | hk <;> rw [hk] <;> simp [rwants]
 | if0 hk hw' => rw [hw] at hw'; cases hw'
 | if1 hk hw' => rw [hw] at hw'; cases hw'
 | if2 hk hw' hb => rw [hk, hb]; simp
 | if3 hk hw' hb => rw [hk, hb]; simp
 | while0 hk hw' => rw [hw] at hw'; cases hw'
 | while1 hk hw' => rw [hw] at hw'; cases hw'
 | while2 hk hw' => rw [hk]; simp
 | block _ hk hw' hn => rw [hk]; simp
theorem cont_false {k : Int} (h : cont k = false) : wantedOf k = [] /\ ¬ (0 < rwants k \/ k = 9) /\ k ≠ 7 /\ k ≠ 9 := by
 unfold cont at h
 simp only [Bool.or_eq_false_iff, decide_eq_false_iff_not] at h
 obtain ⟨h1, h2⟩ := h
 unfold rwants at h1
 unfold wantedOf
 refine ⟨?_, ?_, ?_, h2⟩
 · split at h1
   · exact absurd (by decide) h1
   · rename_i a
     rw [if_neg a]
     split at h1
     · exact absurd (by decide) h1
     · rename_i b
       rw [if_neg (by omega), if_neg (by omega)]
 · unfold rwants; simp only [not_or]; exact ⟨h1, h2⟩
 · rintro rfl; exact h1 (by decide)
theorem new_good {k d : Int} (hc : cont k = true) (j : Nat) (hd : d = j + 1) : Good1 j ⟨k, d, wantedOf k, 0⟩ ⟨d, k, 0⟩ := by
 have hbl : (0 : Int) <= 0 /\ (0 : Int) + ((wantedOf k).count 1 : Nat) <= 2 := by
   unfold wantedOf
   split
   · decide
   · split
     · decide
     · split <;> decide
 refine ⟨hd, hd, rfl, ?_, hbl⟩
 unfold cont rwants at hc
 simp only [Bool.or_eq_true, decide_eq_true_eq] at hc
 by_cases h1 : k = 2 \/ k = 5 \/ k = 13 \/ k = 14
 · exact .one0 _ h1 (by simp [wantedOf, h1])
 · by_cases h2 : k = 3 \/ k = 15
   · exact .two0 _ h2 (by simp [wantedOf, h1, h2])
   · by_cases h3 : k = 7
     · subst h3; exact .if0 _ rfl rfl rfl
     · by_cases h4 : k = 8
       · subst h4; exact .while0 _ rfl rfl
       · by_cases h5 : k = 9
         · subst h5; exact .block _ _ rfl rfl (Int.le_refl _)
         · exfalso
           rw [if_neg h1, if_neg (by omega)] at hc
           omega
theorem ShI.behind {c : List Hold} {st' : List Opn} (hc : Cr c st') (n : Nd) (hd : n.depth = c.length + 1) (hab : cont n.kind = true -> ∀ (i : Nat) (b : Hold), c[i]? = some b -> b.wants ≠ [] -> isExprB n.kind = true) {heads' begun' : Bool} (hh : heads' = !begun') (hb : c ≠ [] \/ cont n.kind = true -> begun' = true) :
   ShI (c ++ [⟨n.kind, n.depth, wantedOf n.kind, 0⟩]) heads' (rpush st' n) begun' := by
 unfold rpush
 cases hk : cont n.kind with
 | true =>
   have e : 0 < rwants n.kind \/ n.kind = 9 := by unfold cont at hk; simpa using hk
   rw [if_pos e]
   exact ⟨⟨_, [], by simp, hc.push _ _ (new_good hk _ hd) (hab hk), .inl rfl⟩, hh, fun _ => hb (.inr hk)⟩
 | false =>
   obtain ⟨h1, h2, _⟩ := cont_false hk
   rw [if_neg h2]
   refine ⟨⟨c, _, rfl, hc, .inr ⟨_, rfl, h1, hd, hk, rfl⟩⟩, hh, fun hs => hb (.inl ?_)⟩
   rintro rfl
   exact hs (List.eq_nil_of_length_eq_zero hc.len)
def Same (x : Option (List Hold × Bool)) (y : Option (List Opn × Bool)) (n : Nd) : Prop :=
 (x = none /\ y = none) \/ ∃ o' h' st' b', x = some (o', h') /\ y = some (st', b') /\ (o'.length : Int) = n.depth /\ ShI o' h' (rpush st' n) b'
theorem take_last {α : Type} {l : List α} {i : Nat} {x : α} (h : l[i]? = some x) : l.take (i + 1) = l.take i ++ [x] := by
 rw [List.take_add_one, h]; rfl
theorem stand_same (h : ShI o heads st begun) (ho : o.length <= 24) (n : Nd) (hlo : -9223372036854775808 <= n.depth) (hhi : n.depth <= 9223372036854775807) : Same (standF o heads n) (rstandF st begun n) n := by
 unfold standF rstandF
 cases hf : fieldsB n with
 | false => left; simp
 | true =>
   simp only [Bool.true_eq_false, if_false, or_false]
   have hdep := h.depth
   have hrd := h.rdepth
   have hhd := h.heads
   have hbg := h.beg
   rw [h.rcut n.depth]
   obtain ⟨⟨c, lf, rfl, hc, hlf⟩, _, _⟩ := id h
   have hlen := hc.len
   have hcut : ∀ o1 : List Hold, (∀ (j : Nat) (x : Hold), o1[j]? = some x -> x.depth = j + 1) -> popF n.depth o1 = o1.take (min o1.length (n.depth - 1).toNat) := fun o1 h1 => by
     unfold popF
     rw [cut_depth (fun x : Hold => x.depth) o1 h1]
   have hlw : ∀ (j : Nat) (x : Hold), c.length <= j -> (c ++ lf)[j]? = some x -> x.wants = [] /\ cont x.kind = false := fun j x hj hx => by
     rw [List.getElem?_append_right hj] at hx
     rcases hlf with rfl | ⟨g, rfl, h1, _, h2⟩
     · simp at hx
     · cases hk : j - c.length with
       | zero => rw [hk] at hx; simp at hx; subst hx; exact ⟨h1, h2.1⟩
       | succ m => rw [hk] at hx; simp at hx
   have hcl : c.length <= (c ++ lf).length := by simp
   have hlfl : (c ++ lf).length <= c.length + 1 := by
     rcases hlf with rfl | ⟨g, rfl, _⟩ <;> simp
   cases hwi : wantIx (c ++ lf) with
   | some w =>
     obtain ⟨⟨g, hg, hgw⟩, hbe⟩ := lastIx_some hwi
     have hgw' : g.wants ≠ [] := by intro e; rw [e] at hgw; cases hgw
     have hwc : w < c.length := by
       rcases Nat.lt_or_ge w c.length with h' | h'
       · exact h'
       · exact absurd (hlw w g h' hg).1 hgw'
     have hcg : c[w]? = some g := by rw [List.getElem?_append_left hwc] at hg; exact hg
     have hsw : st[w]? = some st[w] := List.getElem?_eq_getElem (by omega)
     generalize hr : st[w] = r at hsw
     have hG := hc.good w g r hcg hsw
     have hbeh : ∀ (j : Nat) (x : Hold), w < j -> c[j]? = some x -> x.wants = [] /\ isExprB x.kind = true := fun j x hj hx => by
       have hjl := (List.getElem?_eq_some_iff.1 hx).1
       have := hbe j x hj (by rw [List.getElem?_append_left hjl]; exact hx)
       refine ⟨?_, hc.above w j g x hj hcg hgw' hx⟩
       cases hxw : x.wants with
       | nil => rfl
       | cons _ _ => rw [hxw] at this; cases this
     have hb1 : begun = true := hbg (by rintro rfl; simp at hlen; omega)
     have hgd := hG.hd
     unfold takeF
     simp only [hwi, hg]
     obtain ⟨x, rest, hxr⟩ : ∃ x rest, g.wants = x :: rest := by
       cases hgw2 : g.wants with
       | nil => exact absurd hgw2 hgw'
       | cons x rest => exact ⟨x, rest, rfl⟩
     simp only [hxr]
     by_cases hd : n.depth = w + 2
     · have hk : min st.length (n.depth - 1).toNat = w + 1 := by omega
       have hnl : ((st.drop (w + 1)).any lacks = true) = False := by
         apply eq_false
         rw [any_lacks hc]
         rintro ⟨j, y, h1, h2, h3⟩
         exact h3 (hbeh j y (by omega) h2).1
       rw [hk]
       simp only [hnl, if_false, hsw]
       rw [if_neg (show ¬ (n.depth ≠ ((w + 1 : Nat) : Int) + 1) by omega)]
       have hdg : (n.depth ≠ g.depth + 1) = False := by apply eq_false; omega
       simp only [hdg, false_or]
       -- what is done where it is taken
       have acc : ∀ (g' : Hold) (r' : Opn), g'.kind = g.kind -> Good1 w g' r' -> n.kind ≠ 0 -> n.kind ≠ 1 -> (cont n.kind = true -> isExprB n.kind = true \/ (g'.wants = [] /\ ∀ (i : Nat) (b : Hold), i < w -> c[i]? = some b -> b.wants = [])) ->
           ∃ o' h' st' b', some (popF n.depth ((c ++ lf).set w g') ++ [⟨n.kind, n.depth, wantedOf n.kind, 0⟩], if n.kind = 0 \/ n.kind = 1 then heads else false) = some (o', h') /\ some (st.take w ++ [r'], begun) = some (st', b') /\ (o'.length : Int) = n.depth /\ ShI o' h' (rpush st' n) b' := by
         intro g' r' hgk hG' h0 h1 hcase
         refine ⟨_, _, _, _, rfl, rfl, ?_⟩
         have e1 : popF n.depth ((c ++ lf).set w g') = c.take w ++ [g'] := by
           rw [hcut _ fun j y hy => ?_]
           · have e2 : min ((c ++ lf).set w g').length (n.depth - 1).toNat = w + 1 := by rw [List.length_set]; omega
             rw [e2]
             have e3 : ((c ++ lf).set w g')[w]? = some g' := by rw [List.getElem?_set_self (by simp; omega)]
             rw [take_last e3, List.take_set_of_le (by omega)]
             rw [List.take_append_of_le_length (by omega)]
           · rw [List.getElem?_set] at hy
             split at hy
             · rename_i e
               split at hy
               · cases hy; subst e; exact hG'.hd
               · cases hy
             · exact hdep j y hy
         rw [e1, if_neg (by omega)]
         have hcw : (c.take w).length = w := by simp; omega
         have hC : Cr (c.take w ++ [g']) (st.take w ++ [r']) := by
           refine (hc.take w).push g' r' (by rw [hcw]; exact hG') fun i b hb hbw => ?_
           have hiw : i < w := by have := (List.getElem?_eq_some_iff.1 hb).1; omega
           rw [List.getElem?_take, if_pos hiw] at hb
           rw [hgk]
           exact hc.above i w b g hiw hb hbw hcg
         refine ⟨by simp; omega, ShI.behind hC n (by simp; omega) ?_ (by rw [hb1]; rfl) fun _ => hb1⟩
         intro hk2 i b hb hbw
         rcases hcase hk2 with h' | ⟨h1', h2'⟩
         · exact h'
         · exfalso
           by_cases hi : i < w
           · rw [List.getElem?_append_left (by omega), List.getElem?_take, if_pos hi] at hb
             exact hbw (h2' i b hi hb)
           · have hl := (List.getElem?_eq_some_iff.1 hb).1
             simp at hl
             have : i = w := by omega
             subst this
             rw [List.getElem?_append_right (by omega), hcw] at hb
             simp at hb
             subst hb
             exact hbw h1'
       -- an expression is wanted
       have ex : ∀ (g' : Hold) (r' : Opn), x = 0 -> rholds r n.kind = isExprB n.kind -> g' = { g with wants := rest, blocks := if x = 1 then g.blocks + 1 else g.blocks } -> r' = { r with has := r.has + 1 } -> Good1 w g' r' ->
           Same (match (if (x = 0 /\ isExprB n.kind = false) \/ (x = 1 /\ n.kind ≠ 9) then none else some ((c ++ lf).set w { g with wants := rest, blocks := if x = 1 then g.blocks + 1 else g.blocks })) with
             | none => none
             | some o1 => some (popF n.depth o1 ++ [⟨n.kind, n.depth, wantedOf n.kind, 0⟩], if n.kind = 0 \/ n.kind = 1 then heads else false)) (if rholds r n.kind = false then none else some (st.take w ++ [{ r with has := r.has + 1 }], begun)) n := by
         rintro g' r' rfl hrh rfl rfl hG'
         rw [hrh]
         cases he : isExprB n.kind with
         | false => left; simp
         | true =>
           right
           have hke : 10 <= n.kind := by unfold isExprB at he; simp at he; exact he.1
           have := acc { g with wants := rest, blocks := if (0 : Int) = 1 then g.blocks + 1 else g.blocks } { r with has := r.has + 1 } rfl hG' (by omega) (by omega) fun _ => .inl he
           simpa using this
       -- a block is wanted
       have bl : ∀ (g' : Hold) (r' : Opn), x = 1 -> rest = [] -> (g.kind = 7 \/ g.kind = 8) -> rholds r n.kind = decide (n.kind = 9) -> g' = { g with wants := rest, blocks := if x = 1 then g.blocks + 1 else g.blocks } -> r' = { r with has := r.has + 1 } -> Good1 w g' r' ->
           Same (match (if (x = 0 /\ isExprB n.kind = false) \/ (x = 1 /\ n.kind ≠ 9) then none else some ((c ++ lf).set w { g with wants := rest, blocks := if x = 1 then g.blocks + 1 else g.blocks })) with
             | none => none
             | some o1 => some (popF n.depth o1 ++ [⟨n.kind, n.depth, wantedOf n.kind, 0⟩], if n.kind = 0 \/ n.kind = 1 then heads else false)) (if rholds r n.kind = false then none else some (st.take w ++ [{ r with has := r.has + 1 }], begun)) n := by
         rintro g' r' rfl rfl hgk hrh rfl rfl hG'
         rw [hrh]
         by_cases he : n.kind = 9
         · right
           have := acc { g with wants := [], blocks := if (1 : Int) = 1 then g.blocks + 1 else g.blocks } { r with has := r.has + 1 } rfl hG' (by omega) (by omega) fun _ => .inr ⟨rfl, fun i b hi hb => by
             rcases Classical.em (b.wants = []) with h' | h'
             · exact h'
             · have := hc.above i w b g hi hb h' hcg
               unfold isExprB at this
               simp at this
               omega⟩
           simpa [he] using this
         · left; simp [he]
       have hst := hG.st
       have hbl := hG.bl
       rw [hxr] at hbl
       have hbl := bl_next hbl
       have hkd := hG.kd
       have hrdw := hG.rd
       clear acc
       obtain ⟨rd, rk, rh⟩ := r
       simp only at hkd hrdw hst
       subst hkd
       cases hst with
       | one0 hk2 hw2 =>
         rw [hxr] at hw2
         obtain ⟨rfl, rfl⟩ : x = 0 /\ rest = [] := by simpa using hw2
         refine ex _ _ rfl ?_ rfl rfl ⟨hgd, hrdw, rfl, .one1 _ hk2 rfl, hbl⟩
         unfold rholds
         rcases hk2 with hk2 | hk2 | hk2 | hk2 <;> rw [hk2] <;> simp [rwants]
       | one1 hk2 hw2 => rw [hxr] at hw2; cases hw2
       | two0 hk2 hw2 =>
         rw [hxr] at hw2
         obtain ⟨rfl, rfl⟩ : x = 0 /\ rest = [0] := by simpa using hw2
         refine ex _ _ rfl ?_ rfl rfl ⟨hgd, hrdw, rfl, .two1 _ hk2 rfl, hbl⟩
         unfold rholds
         rcases hk2 with hk2 | hk2 <;> rw [hk2] <;> simp [rwants]
       | two1 hk2 hw2 =>
         rw [hxr] at hw2
         obtain ⟨rfl, rfl⟩ : x = 0 /\ rest = [] := by simpa using hw2
         refine ex _ _ rfl ?_ rfl rfl ⟨hgd, hrdw, rfl, .two2 _ hk2 rfl, hbl⟩
         unfold rholds
         rcases hk2 with hk2 | hk2 <;> rw [hk2] <;> simp [rwants]
       | two2 hk2 hw2 => rw [hxr] at hw2; cases hw2
       | if0 hk2 hw2 hb2 =>
         rw [hxr] at hw2
         obtain ⟨rfl, rfl⟩ : x = 0 /\ rest = [1] := by simpa using hw2
         refine ex _ _ rfl ?_ rfl rfl ⟨hgd, hrdw, rfl, .if1 _ hk2 rfl (by simpa using hb2), hbl⟩
         unfold rholds
         rw [hk2]; simp
       | if1 hk2 hw2 hb2 =>
         rw [hxr] at hw2
         obtain ⟨rfl, rfl⟩ : x = 1 /\ rest = [] := by simpa using hw2
         refine bl _ _ rfl rfl (.inl hk2) ?_ rfl rfl ⟨hgd, hrdw, rfl, .if2 _ hk2 rfl (by simp [hb2]), hbl⟩
         unfold rholds
         rw [hk2]; simp
       | if2 hk2 hw2 => rw [hxr] at hw2; cases hw2
       | if3 hk2 hw2 => rw [hxr] at hw2; cases hw2
       | while0 hk2 hw2 =>
         rw [hxr] at hw2
         obtain ⟨rfl, rfl⟩ : x = 0 /\ rest = [1] := by simpa using hw2
         refine ex _ _ rfl ?_ rfl rfl ⟨hgd, hrdw, rfl, .while1 _ hk2 rfl, hbl⟩
         unfold rholds
         rw [hk2]; simp
       | while1 hk2 hw2 =>
         rw [hxr] at hw2
         obtain ⟨rfl, rfl⟩ : x = 1 /\ rest = [] := by simpa using hw2
         refine bl _ _ rfl rfl (.inr hk2) ?_ rfl rfl ⟨hgd, hrdw, rfl, .while2 _ hk2 rfl, hbl⟩
         unfold rholds
         rw [hk2]; simp
       | while2 hk2 hw2 => rw [hxr] at hw2; cases hw2
       | block _ hk2 hw2 => rw [hxr] at hw2; cases hw2
     · left
       refine ⟨by rw [if_pos (.inl (by omega))], ?_⟩
       generalize hkk : min st.length (n.depth - 1).toNat = k
       split
       · rfl
       · rename_i hnl
         rw [any_lacks hc] at hnl
         split
         · rfl
         · rename_i hdk
           have hdk : n.depth = k + 1 := by omega
           have hwk : w < k := by
             rcases Nat.lt_or_ge w k with h' | h'
             · exact h'
             · exact absurd ⟨w, g, h', hcg, hgw'⟩ hnl
           cases k with
           | zero => omega
           | succ i =>
             have hi : i < c.length := by omega
             have hci : c[i]? = some c[i] := List.getElem?_eq_getElem hi
             have hsi : st[i]? = some st[i] := List.getElem?_eq_getElem (by omega)
             generalize c[i] = g2 at hci
             generalize st[i] = r2 at hsi
             have hG2 := hc.good i g2 r2 hci hsi
             have hb2 := hbeh i g2 (by omega) hci
             simp only [hsi]
             rw [rholds_full hG2.st hG2.kd hb2.1]
             have := hb2.2
             unfold isExprB at this
             simp at this
             have e9 : g2.kind ≠ 9 := by omega
             have e7 : ¬ (g2.kind = 7 /\ g2.blocks = 1) := by omega
             simp [e9, e7]
   | none =>
     have hnw : ∀ (j : Nat) (x : Hold), c[j]? = some x -> x.wants = [] := fun j x hx => by
       have hjl := (List.getElem?_eq_some_iff.1 hx).1
       have := lastIx_none hwi j x (by rw [List.getElem?_append_left hjl]; exact hx)
       cases hxw : x.wants with
       | nil => rfl
       | cons _ _ => rw [hxw] at this; cases this
     have hnl : ∀ k, ((st.drop k).any lacks = true) = False := fun k => by
       apply eq_false
       rw [any_lacks hc]
       rintro ⟨j, y, h1, h2, h3⟩
       exact h3 (hnw j y h2)
     simp only [hnl, if_false]
     unfold takeF
     simp only [hwi]
     generalize hkk : min st.length (n.depth - 1).toNat = k
     -- what is on top
     have top : ∀ i : Nat, k = i + 1 -> n.depth = i + 2 -> ∃ g r, c[i]? = some g /\ st[i]? = some r /\ Good1 i g r /\ rholds r n.kind = ((decide (g.kind = 9) && isStmtB n.kind) || (decide (g.kind = 7 /\ g.blocks = 1) && decide (n.kind = 9))) := by
       intro i hi hdi
       have hic : i < c.length := by omega
       have hci : c[i]? = some c[i] := List.getElem?_eq_getElem hic
       have hsi : st[i]? = some st[i] := List.getElem?_eq_getElem (by omega)
       have hG2 := hc.good i _ _ hci hsi
       exact ⟨_, _, hci, hsi, hG2, rholds_full hG2.st hG2.kd (hnw i _ hci) n.kind⟩
     -- where one is put behind
     have put : ∀ (i : Nat) (g' : Hold) (r' : Opn) (o1 : List Hold), n.depth = i + 2 -> i < c.length -> (o1 = c ++ lf /\ c[i]? = some g' \/ o1 = (c ++ lf).set i g' /\ (∃ g, c[i]? = some g /\ g'.kind = g.kind)) -> Good1 i g' r' -> g'.wants = [] -> n.kind ≠ 0 -> n.kind ≠ 1 ->
         ∃ o' h' st' b', some (popF n.depth o1 ++ [⟨n.kind, n.depth, wantedOf n.kind, 0⟩], if n.kind = 0 \/ n.kind = 1 then heads else false) = some (o', h') /\ some (st.take i ++ [r'], begun) = some (st', b') /\ (o'.length : Int) = n.depth /\ ShI o' h' (rpush st' n) b' := by
       intro i g' r' o1 hdi hic ho1 hG' hw' h0 h1
       have hb1 : begun = true := hbg (by rintro rfl; simp at hlen; omega)
       refine ⟨_, _, _, _, rfl, rfl, ?_⟩
       have hdo : ∀ (j : Nat) (y : Hold), o1[j]? = some y -> y.depth = j + 1 := by
         rcases ho1 with ⟨rfl, _⟩ | ⟨rfl, _⟩
         · exact hdep
         · intro j y hy
           rw [List.getElem?_set] at hy
           split at hy
           · rename_i e
             split at hy
             · cases hy; subst e; exact hG'.hd
             · cases hy
           · exact hdep j y hy
       have hl1 : o1.length = (c ++ lf).length := by rcases ho1 with ⟨rfl, _⟩ | ⟨rfl, _⟩ <;> simp
       have e1 : popF n.depth o1 = c.take i ++ [g'] := by
         rw [hcut _ hdo]
         have e2 : min o1.length (n.depth - 1).toNat = i + 1 := by rw [hl1]; simp; omega
         rw [e2]
         rcases ho1 with ⟨rfl, hcg⟩ | ⟨rfl, _⟩
         · rw [List.take_append_of_le_length (by omega), take_last hcg]
         · have e3 : ((c ++ lf).set i g')[i]? = some g' := by rw [List.getElem?_set_self (by simp; omega)]
           rw [take_last e3, List.take_set_of_le (by omega), List.take_append_of_le_length (by omega)]
       rw [e1, if_neg (by omega)]
       have hcw : (c.take i).length = i := by simp; omega
       have hC : Cr (c.take i ++ [g']) (st.take i ++ [r']) := by
         refine (hc.take i).push g' r' (by rw [hcw]; exact hG') fun j b hb hbw => ?_
         have hj : j < i := by have := (List.getElem?_eq_some_iff.1 hb).1; omega
         rw [List.getElem?_take, if_pos hj] at hb
         exact absurd (hnw j b hb) hbw
       refine ⟨by simp; omega, ShI.behind hC n (by simp; omega) ?_ (by rw [hb1]; rfl) fun _ => hb1⟩
       intro hk2 j b hb hbw
       exfalso
       by_cases hj : j < i
       · rw [List.getElem?_append_left (by omega), List.getElem?_take, if_pos hj] at hb
         exact hbw (hnw j b hb)
       · have hl := (List.getElem?_eq_some_iff.1 hb).1
         simp at hl
         have : j = i := by omega
         subst this
         rw [List.getElem?_append_right (by omega), hcw] at hb
         simp at hb
         subst hb
         exact hbw hw'
     -- the first one
     have first : ∀ (b' h' : Bool), n.depth = 1 -> h' = !b' -> (cont n.kind = true -> b' = true) -> ∃ o' h2 st' b2, some (popF n.depth (c ++ lf) ++ [⟨n.kind, n.depth, wantedOf n.kind, 0⟩], h') = some (o', h2) /\ some (([] : List Opn), b') = some (st', b2) /\ (o'.length : Int) = n.depth /\ ShI o' h2 (rpush st' n) b2 := by
       intro b' h' hd1 hh' hb'
       have e1 : popF n.depth (c ++ lf) = [] := by
         rw [hcut _ hdep, show min (c ++ lf).length (n.depth - 1).toNat = 0 from by omega]; rfl
       refine ⟨_, _, _, _, rfl, rfl, ?_⟩
       rw [e1]
       refine ⟨by simp; omega, ShI.behind (c := []) ⟨rfl, fun j h r hh => by simp at hh, fun i j h g _ hh => by simp at hh⟩ n (by simp; omega) (fun _ i b hb => by simp at hb) hh' fun hx => ?_⟩
       rcases hx with hx | hx
       · exact absurd rfl hx
       · exact hb' hx
     -- which is held
     have held : ∀ u : Nat, heldIx (c ++ lf) (IntKind.wrap .i64 (n.depth - 1)) = some u -> n.depth = u + 2 /\ u < (c ++ lf).length := by
       intro u hu
       obtain ⟨⟨y, h1, h2⟩, _⟩ := lastIx_some hu
       have hy := hdep u y h1
       have hul := (List.getElem?_eq_some_iff.1 h1).1
       have h2 : y.depth = IntKind.wrap .i64 (n.depth - 1) := by simpa using h2
       rw [hy] at h2
       refine ⟨?_, hul⟩
       simp only [IntKind.wrap, IntKind.signed, IntKind.bits] at h2
       simp at h2
       split at h2 <;> omega
     have notheld : heldIx (c ++ lf) (IntKind.wrap .i64 (n.depth - 1)) = none -> 2 <= n.depth -> ((c ++ lf).length : Int) + 1 < n.depth := by
       intro hu hd2
       rcases Int.lt_or_le ((c ++ lf).length + 1 : Int) n.depth with h' | h'
       · exact h'
       · exfalso
         have hlt : (n.depth - 2).toNat < (c ++ lf).length := by omega
         have := lastIx_none hu _ _ (List.getElem?_eq_getElem hlt)
         have hy := hdep _ _ (List.getElem?_eq_getElem hlt)
         rw [hy] at this
         have hw2 : IntKind.wrap .i64 (n.depth - 1) = n.depth - 1 := by
           simp only [IntKind.wrap, IntKind.signed, IntKind.bits]
           simp
           split <;> omega
         rw [hw2] at this
         simp at this
         omega
     by_cases h01 : n.kind = 0 \/ n.kind = 1
     · simp only [h01, if_true, true_and, not_true, false_and, or_false]
       by_cases hd1 : n.depth = 1
       · have hk0 : k = 0 := by omega
         subst hk0
         rw [if_neg (show ¬ (n.depth ≠ ((0 : Nat) : Int) + 1) by omega)]
         dsimp only
         rw [hhd]
         cases begun with
         | true => left; constructor <;> simp
         | false =>
           right
           have hcn : cont n.kind = false := by rcases h01 with e | e <;> rw [e] <;> rfl
           have := first false true hd1 rfl (by rw [hcn]; intro h; cases h)
           rw [if_neg (show ¬ (n.depth ≠ 1 \/ (!false) = false) by simp [hd1])]
           simpa using this
       · left
         refine ⟨by simp [hd1], ?_⟩
         split
         · rfl
         · rename_i hdk
           cases k with
           | zero => exact absurd (by omega) hd1
           | succ i =>
             obtain ⟨g, r, h1, h2, h3, h4⟩ := top i rfl (by omega)
             dsimp only
             rw [h2]
             dsimp only
             have e1 : isStmtB n.kind = false := by rcases h01 with e | e <;> rw [e] <;> rfl
             have e2 : ¬ n.kind = 9 := by omega
             rw [h4]
             simp [e1, e2]
     · simp only [h01, if_false, false_and, not_false_eq_true, true_and, false_or]
       by_cases hs : isStmtB n.kind = true
       · have hs2 : 2 <= n.kind /\ n.kind <= 8 := by unfold isStmtB at hs; simpa using hs
         simp only [hs, if_true, Bool.true_eq_false, if_false]
         by_cases hd1 : n.depth = 1
         · have hk0 : k = 0 := by omega
           subst hk0
           rw [if_neg (show ¬ (n.depth ≠ ((0 : Nat) : Int) + 1) by omega), if_pos hd1]
           right
           have := first true false hd1 rfl fun _ => rfl
           simpa using this
         · simp only [hd1, if_false]
           cases hh : heldIx (c ++ lf) (IntKind.wrap .i64 (n.depth - 1)) with
           | none =>
             left
             refine ⟨rfl, ?_⟩
             have := notheld hh
             rw [if_pos (by omega)]
           | some u =>
             obtain ⟨hdu, hul⟩ := held u hh
             have huo : (c ++ lf)[u]? = some (c ++ lf)[u] := List.getElem?_eq_getElem hul
             by_cases huc : u < c.length
             · have hku : k = u + 1 := by omega
               obtain ⟨g, r, h1, h2, h3, h4⟩ := top u hku (by omega)
               have h1' : (c ++ lf)[u]? = some g := by rw [List.getElem?_append_left huc]; exact h1
               rw [hku, if_neg (by omega)]
               dsimp only
               rw [h1', h2]
               dsimp only
               rw [h4]
               by_cases h9 : g.kind = 9
               · right
                 have hG' : Good1 u g { r with has := r.has + 1 } := by
                   refine ⟨h3.hd, h3.rd, h3.kd, ?_, h3.bl⟩
                   have hst := h3.st
                   show St g (r.has + 1)
                   generalize r.has = x at hst ⊢
                   cases hst with
                   | block _ a b c => exact .block _ _ a b (by omega)
                   | one0 a _ => omega
                   | one1 a _ => omega
                   | two0 a _ => omega
                   | two1 a _ => omega
                   | two2 a _ => omega
                   | if0 a _ _ => omega
                   | if1 a _ _ => omega
                   | if2 a _ _ => omega
                   | if3 a _ _ => omega
                   | while0 a _ => omega
                   | while1 a _ => omega
                   | while2 a _ => omega
                 have := put u g _ _ hdu huc (.inl ⟨rfl, h1⟩) hG' (hnw u g h1) (by omega) (by omega)
                 simpa [h9, hs, h01] using this
               · left
                 have e9 : ¬ n.kind = 9 := by omega
                 simp [h9, e9]
             · left
               have hx := hlw u _ (by omega) huo
               have h9 := (cont_false hx.2).2.2.2
               dsimp only
               rw [huo]
               dsimp only
               refine ⟨by rw [if_neg h9], ?_⟩
               rw [if_pos (by omega)]
       · have hs' : isStmtB n.kind = false := by simpa using hs
         simp only [hs', Bool.false_eq_true, if_false, if_true]
         by_cases h9 : n.kind = 9
         · simp only [h9, if_true]
           cases hh : heldIx (c ++ lf) (IntKind.wrap .i64 (n.depth - 1)) with
           | none =>
             left
             refine ⟨rfl, ?_⟩
             have := notheld hh
             split
             · rfl
             · rename_i hdk
               cases k with
               | zero => rfl
               | succ i => exact absurd (this (by omega)) (by omega)
           | some u =>
             obtain ⟨hdu, hul⟩ := held u hh
             have huo : (c ++ lf)[u]? = some (c ++ lf)[u] := List.getElem?_eq_getElem hul
             by_cases huc : u < c.length
             · have hku : k = u + 1 := by omega
               obtain ⟨g, r, h1, h2, h3, h4⟩ := top u hku (by omega)
               have h1' : (c ++ lf)[u]? = some g := by rw [List.getElem?_append_left huc]; exact h1
               rw [hku, if_neg (by omega)]
               dsimp only
               rw [h1', h2]
               dsimp only
               rw [h9] at h4
               rw [h4]
               by_cases h7 : g.kind = 7 /\ g.blocks = 1
               · right
                 have hG' : Good1 u { g with blocks := g.blocks + 1 } { r with has := r.has + 1 } := by
                   refine ⟨h3.hd, h3.rd, h3.kd, ?_, by have := hnw u g h1; show 0 <= g.blocks + 1 /\ g.blocks + 1 + (g.wants.count 1 : Nat) <= 2; rw [this, h7.2]; decide⟩
                   have hst := h3.st
                   show St _ (r.has + 1)
                   generalize r.has = x at hst ⊢
                   cases hst with
                   | if2 a b c => exact .if3 _ a b (by show g.blocks + 1 = 2; omega)
                   | if3 a b c => omega
                   | if0 a b c => omega
                   | if1 a b c => omega
                   | block _ a _ _ => omega
                   | one0 a _ => omega
                   | one1 a _ => omega
                   | two0 a _ => omega
                   | two1 a _ => omega
                   | two2 a _ => omega
                   | while0 a _ => omega
                   | while1 a _ => omega
                   | while2 a _ => omega
                 have := put u { g with blocks := g.blocks + 1 } _ _ hdu huc (.inr ⟨rfl, g, h1, rfl⟩) hG' (hnw u g h1) (by omega) (by omega)
                 have e : isStmtB 9 = false := rfl
                 simpa [h7, h9, e] using this
               · left
                 have e : isStmtB 9 = false := rfl
                 simp [h7, e]
             · left
               have hx := hlw u _ (by omega) huo
               have h7 := (cont_false hx.2).2.2.1
               dsimp only
               rw [huo]
               dsimp only
               refine ⟨by rw [if_neg (by omega)], ?_⟩
               rw [if_pos (by omega)]
         · simp only [h9, if_false]
           left
           refine ⟨rfl, ?_⟩
           split
           · rfl
           · rename_i hdk
             cases k with
             | zero => rfl
             | succ i =>
               obtain ⟨g, r, h1, h2, h3, h4⟩ := top i rfl (by omega)
               dsimp only
               rw [h2]
               dsimp only
               rw [h4]
               simp [hs', h9]
end
theorem shapeG_same : ∀ (l : List Nd) {o : List Hold} {heads : Bool} {st : List Opn} {begun : Bool} (i : Nat), ShI o heads st begun -> o.length <= 24 -> (∀ n ∈ l, -9223372036854775808 <= n.depth /\ n.depth <= 9223372036854775807) -> shapeG o heads i l = rshapeG st begun i l := by
 intro l
 induction l with
 | nil =>
   intro o heads st begun i h _ _
   unfold shapeG rshapeG
   obtain ⟨⟨c, lf, rfl, hc, hlf⟩, _, _⟩ := id h
   have e : (wantIx (c ++ lf)).isSome = st.any lacks := by
     have hal := any_lacks hc 0
     rw [List.drop_zero] at hal
     cases hw : wantIx (c ++ lf) with
     | some w =>
       obtain ⟨⟨g, h1, h2⟩, _⟩ := lastIx_some hw
       have hg : g.wants ≠ [] := by intro e; rw [e] at h2; cases h2
       symm
       rw [Option.isSome_some, hal]
       by_cases hwc : w < c.length
       · rw [List.getElem?_append_left hwc] at h1
         exact ⟨w, g, Nat.zero_le _, h1, hg⟩
       · exfalso
         rw [List.getElem?_append_right (by omega)] at h1
         rcases hlf with rfl | ⟨x, rfl, k1, k2, _⟩
         · simp at h1
         · cases hk : w - c.length with
           | zero => rw [hk] at h1; simp at h1; subst h1; exact hg k1
           | succ m => rw [hk] at h1; simp at h1
     | none =>
       symm
       rw [Option.isSome_none, Bool.eq_false_iff]
       intro ha
       obtain ⟨j, g, _, h1, h2⟩ := hal.1 ha
       have hjl := (List.getElem?_eq_some_iff.1 h1).1
       have := lastIx_none hw j g (by rw [List.getElem?_append_left hjl]; exact h1)
       cases hgw : g.wants with
       | nil => exact h2 hgw
       | cons _ _ => rw [hgw] at this; cases this
   rw [e]
 | cons n l ih =>
   intro o heads st begun i h ho hl
   unfold shapeG rshapeG
   have hn := hl n (List.mem_cons_self ..)
   rcases stand_same h ho n hn.1 hn.2 with ⟨h1, h2⟩ | ⟨o', h', st', b', h1, h2, h3, h4⟩
   · rw [h1, h2]
   · rw [h1, h2]
     dsimp only
     split
     · rfl
     · exact ih (i + 1) h4 (by omega) fun x hx => hl x (List.mem_cons_of_mem _ hx)
theorem shape_same (l : List Nd) (hl : ∀ n ∈ l, -9223372036854775808 <= n.depth /\ n.depth <= 9223372036854775807) : shapeF l = rshapeF l := by
 unfold shapeF rshapeF
 split
 · rfl
 · exact shapeG_same l 0 ShI.start (by decide) hl
end Go.Proofs.YtonmcakdofbjiaaDoor
namespace Go.Proofs.YtonmcakdofbjiaaDoor
open Go.RowKit
theorem isExpr_any (x : Int) (w : World) : Calls Tryd.prog 24 #[.int .i64 x] w fun e w' => e = .returned (.bool (isExprB x)) /\ w' = w := by
 go_enter Tryd.func24, Tryd.ntmps24
 go_wp2
 all_goals
   go_ret
   refine ⟨?_, rfl⟩
   show Ending.returned (.bool _) = Ending.returned (.bool _)
   refine congrArg _ (congrArg _ ?_)
   rw [Bool.eq_iff_iff]
   simp [isExprB]
   try omega
theorem isStmt_any (x : Int) (w : World) : Calls Tryd.prog 26 #[.int .i64 x] w fun e w' => e = .returned (.bool (isStmtB x)) /\ w' = w := by
 go_enter Tryd.func26, Tryd.ntmps26
 go_wp2
 all_goals
   go_ret
   refine ⟨?_, rfl⟩
   show Ending.returned (.bool _) = Ending.returned (.bool _)
   refine congrArg _ (congrArg _ ?_)
   rw [Bool.eq_iff_iff]
   simp [isStmtB]
   try omega
def wantsV (n : Nat) (l : List Int) : Value := if l = [] then .slice none 0 0 else .slice (some ⟨n, 0, none⟩) l.length l.length
def wantsW (w : World) (l : List Int) : World := if l = [] then w else w.alloc (.cells (l.map (Value.int .i64)).toArray 3)
theorem wanted_any (x : Int) (w : World) : Calls Tryd.prog 27 #[.int .i64 x] w fun e w' => e = .returned (wantsV w.heap.size (wantedOf x)) /\ w' = wantsW w (wantedOf x) := by
 go_enter Tryd.func27, Tryd.ntmps27
 go_wp2
 all_goals
   go_ret
   simp_all [wantsV, wantsW, wantedOf]
theorem nameable_no {s : ByteArray} {k : Nat} (hk : k < s.size) (h : okAt s k = false) : nameableB s = false := by
 have : (List.range s.size).all (okAt s) = false := by
   rw [Bool.eq_false_iff]
   intro ha
   rw [List.all_eq_true] at ha
   rw [ha k (List.mem_range.2 hk)] at h
   cases h
 simp [nameableB, this]
theorem nameable_all {s : ByteArray} (h : ∀ j, j < s.size -> okAt s j = true) : nameableB s = (decide (0 < s.size) && decide (s.size <= 16) && !reservedB s) := by
 have : (List.range s.size).all (okAt s) = true := by
   rw [List.all_eq_true]
   exact fun j hj => h j (List.mem_range.1 hj)
 simp [nameableB, this]
theorem toList_size (s : ByteArray) : s.toList.length = s.size := by
 rw [ByteArray.toList_eq]
 simp
theorem okAt_eq {s : ByteArray} {k : Nat} (h : k < s.size) : okAt s k = (isLetter (s[k]).toNat || (decide (k ≠ 0) && isDigit (s[k]).toNat)) := by
 unfold okAt
 rw [dif_pos h]
theorem nameable_any (s : ByteArray) (hs : s.size <= 140737488355328) (w : World) : Calls Tryd.prog 39 #[.string s] w fun e w' => e = .returned (.bool (nameableB s)) /\ w' = w := by
 go_enter Tryd.func39, Tryd.ntmps39
 go_wp2
 go_loop [3] (fun c => ∃ k : Nat, k <= s.size /\ c = .int .i64 k /\ ∀ j : Nat, j < k -> okAt s j = true) (fun c => s.size - (intOf c).toNat)
 case atStart => exact ⟨0, Nat.zero_le _, rfl, fun j h => absurd h (Nat.not_lt_zero _)⟩
 case round =>
   obtain ⟨k, h2, rfl, h3⟩ := hrel
   by_cases hlt : k < s.size
   · by_cases h95 : (((s[k]).toNat : Int) == 95) = true
     · have e95 : ((s[k]).toNat : Int) = 95 := eq_of_beq h95
       go_wp2_with (go_at_call 48; refine (reserved_any _ _).mono ?_; rintro e w' ⟨rfl, rfl⟩)
       all_goals first
             | (refine ⟨⟨k + 1, by omega, by first | go_num | (simp; done) | (simp; omega), fun j hj => ?_⟩, by simp [intOf]; omega⟩
                by_cases e : j = k
                · subst e
                  rw [okAt_eq hlt]
                  simp only [isLetter, isDigit, Bool.or_eq_true, Bool.and_eq_true, decide_eq_true_eq, ne_eq]
                  omega
                · exact h3 j (by omega))
             | (go_ret
                have hno : okAt s k = false := by
                 (rw [okAt_eq hlt]
                  refine Bool.eq_false_iff.2 fun hh => ?_
                  simp only [isLetter, isDigit, Bool.or_eq_true, Bool.and_eq_true, decide_eq_true_eq, ne_eq, not_true_eq_false, false_and, or_false, not_false_eq_true, true_and] at hh
                  omega)
                (refine ⟨?_, rfl⟩); (have e := nameable_no hlt hno); (simp [e]))
             | (exfalso; simp only [Bool.not_eq_false', Bool.not_eq_true', decide_eq_true_eq, decide_eq_false_iff_not, h95] at *; omega)
     · have h95 : (((s[k]).toNat : Int) == 95) = false := by simpa using h95
       have e95 : ((s[k]).toNat : Int) ≠ 95 := by simpa using h95
       by_cases hk0 : k = 0
       · subst hk0
         go_wp2_with (go_at_call 48; refine (reserved_any _ _).mono ?_; rintro e w' ⟨rfl, rfl⟩)
         all_goals first
               | (refine ⟨⟨0 + 1, by omega, by first | go_num | (simp; done) | (simp; omega), fun j hj => ?_⟩, by simp [intOf]; omega⟩
                  by_cases e : j = 0
                  · subst e
                    rw [okAt_eq hlt]
                    simp only [isLetter, isDigit, Bool.or_eq_true, Bool.and_eq_true, decide_eq_true_eq, ne_eq]
                    omega
                  · exact h3 j (by omega))
               | (go_ret
                  have hno : okAt s 0 = false := by
                   (rw [okAt_eq hlt]
                    refine Bool.eq_false_iff.2 fun hh => ?_
                    simp only [isLetter, isDigit, Bool.or_eq_true, Bool.and_eq_true, decide_eq_true_eq, ne_eq, not_true_eq_false, false_and, or_false, not_false_eq_true, true_and] at hh
                    omega)
                  (refine ⟨?_, rfl⟩); (have e := nameable_no hlt hno); (simp [e]))
               | (exfalso; simp only [Bool.not_eq_false', Bool.not_eq_true', decide_eq_true_eq, decide_eq_false_iff_not, h95] at *; omega)
       · have hb : ((k : Int) == 0) = false := by simp [hk0]
         go_wp2_with (go_at_call 48; refine (reserved_any _ _).mono ?_; rintro e w' ⟨rfl, rfl⟩)
         all_goals first
               | (refine ⟨⟨k + 1, by omega, by first | go_num | (simp; done) | (simp; omega), fun j hj => ?_⟩, by simp [intOf]; omega⟩
                  by_cases e : j = k
                  · subst e
                    rw [okAt_eq hlt]
                    simp only [isLetter, isDigit, Bool.or_eq_true, Bool.and_eq_true, decide_eq_true_eq, ne_eq]
                    omega
                  · exact h3 j (by omega))
               | (go_ret
                  have hno : okAt s k = false := by
                   (rw [okAt_eq hlt]
                    refine Bool.eq_false_iff.2 fun hh => ?_
                    simp only [isLetter, isDigit, Bool.or_eq_true, Bool.and_eq_true, decide_eq_true_eq, ne_eq, not_true_eq_false, false_and, or_false, not_false_eq_true, true_and] at hh
                    omega)
                  (refine ⟨?_, rfl⟩); (have e := nameable_no hlt hno); (simp [e]))
               | (exfalso; simp only [Bool.not_eq_false', Bool.not_eq_true', decide_eq_true_eq, decide_eq_false_iff_not, h95] at *; omega)
   · have e := nameable_all (s := s) (fun j hj => h3 j (by omega))
     clear h3
     go_wp2_with (go_at_call 48; refine (reserved_any _ _).mono ?_; rintro e w' ⟨rfl, rfl⟩)
     · go_ret
       have hl : s.toList.length = s.size := toList_size s
       have h0 : s.toList = [] := by assumption
       rw [h0] at hl
       refine ⟨?_, rfl⟩
       have e0 : s.size = 0 := hl.symm
       simp [e, e0]
     · go_ret
       have hl : s.toList.length = s.size := toList_size s
       have hp : 0 < s.size := by
         rcases Nat.eq_zero_or_pos s.size with h | h
         · rw [h] at hl
           exact absurd (List.eq_nil_of_length_eq_zero hl) (by assumption)
         · exact h
       have h16 : s.size <= 16 := by omega
       refine ⟨?_, rfl⟩
       have hne : ¬ s.toList = [] := by assumption
       simp [e, hp, h16, hne]
     · go_ret
       have h16 : ¬ s.size <= 16 := by omega
       refine ⟨?_, rfl⟩
       simp [e, h16]
end Go.Proofs.YtonmcakdofbjiaaDoor
namespace Go.Proofs.YtonmcakdofbjiaaDoor
open Go.RowKit
theorem Kin.alloc {w w' : World} (h : Kin w w') (o : Obj) : Kin w (w'.alloc o) := by
 have g := World.grownBy_alloc w' o none
 have s := g.size
 have s2 := h.size
 exact ⟨h.os, h.out, by omega, fun k hk => (g.block k (by omega) (by simp)).trans (h.block k hk)⟩
theorem Kin.drewN {w w' : World} (h : Kin w w') (n : Nat) : Kin w (w'.drewN n) := ⟨h.os, h.out, h.size, h.block⟩
theorem beq_dec (a b : Int) : (a == b) = decide (a = b) := by
 rw [Bool.eq_iff_iff]
 simp
theorem fields_any (n : Nd) (hs : n.name.size <= 140737488355328) (w : World) : Calls Tryd.prog 23 #[.agg n.cells.toArray] w fun e w' => e = .returned (.bool (fieldsB n)) /\ Kin w w' := by
 obtain ⟨depth, kind, name, num, op, at_⟩ := n
 have hn := nameable_any name hs
 simp only [Nd.cells]
 by_cases h1 : kind = 1
 · subst h1
   go_enter Tryd.func23, Tryd.ntmps23
   go_wp2_with fail
   go_quiet (fail)
   go_wp2_with fail
   have kW : Kin w ((w.alloc (Obj.cells #[Value.int IntKind.i64 depth, Value.int IntKind.i64 1, Value.string name, Value.int IntKind.i64 num, Value.int IntKind.i64 op, Value.int IntKind.i64 at_] 26)).drewN nq) := ((Kin.refl w).alloc _).drewN _
   have c2 : ((w.alloc (Obj.cells #[Value.int IntKind.i64 depth, Value.int IntKind.i64 1, Value.string name, Value.int IntKind.i64 num, Value.int IntKind.i64 op, Value.int IntKind.i64 at_] 26)).drewN nq).cell? ⟨w.heap.size, 2, none⟩ = some (.string name) := by simp [go_sem]
   have c3 : ((w.alloc (Obj.cells #[Value.int IntKind.i64 depth, Value.int IntKind.i64 1, Value.string name, Value.int IntKind.i64 num, Value.int IntKind.i64 op, Value.int IntKind.i64 at_] 26)).drewN nq).cell? ⟨w.heap.size, 3, none⟩ = some (.int .i64 num) := by simp [go_sem]
   generalize ((w.alloc (Obj.cells #[Value.int IntKind.i64 depth, Value.int IntKind.i64 1, Value.string name, Value.int IntKind.i64 num, Value.int IntKind.i64 op, Value.int IntKind.i64 at_] 26)).drewN nq) = W at kW c2 c3 ⊢
   go_quiet ((go_at_call 39; exact Calls.quiet_of_same (hn _)))
   go_wp2
   all_goals
     go_ret
     refine ⟨?_, kW.drewN _⟩
     simp_all [fieldsB]
     try (first | exact beq_dec _ _ | omega | (simp only [beq_dec]; rw [Bool.eq_iff_iff]; simp; omega))
 · have hk1 : (kind == 1) = false := by simp [h1]
   go_enter Tryd.func23, Tryd.ntmps23
   go_wp2_with fail
   go_quiet (fail)
   go_wp2_with (go_at_call 39; refine (hn _).mono ?_; rintro e w' ⟨rfl, rfl⟩)
   all_goals
     go_ret
     refine ⟨?_, ((Kin.refl w).alloc _).drewN _⟩
     simp_all [fieldsB]
     try (first | exact beq_dec _ _ | omega | (simp only [beq_dec]; rw [Bool.eq_iff_iff]; simp; omega))
end Go.Proofs.YtonmcakdofbjiaaDoor
