/-
  The parts: base Sim3 base Sim4 base Sim5
-/
import Derived.Test.YtonmcakdofbjiaaDoorV7
set_option linter.unusedVariables false
set_option linter.unusedSimpArgs false
set_option linter.unusedSectionVars false
set_option linter.unnecessarySimpa false
set_option maxRecDepth 100000
set_option maxHeartbeats 8000000
namespace Go.Bsd
open Go.Conc
section
variable {P : Program} {F : FuncId -> Prop} {ρ : Rn} {α β : Type} {A : Rn -> α -> α -> Prop} {B : Rn -> β -> β -> Prop}
theorem SRel.nones {γ : Type} {s s' : Sem (Option γ)} (h : SRel P F (fun _ a a' => a = none /\ a' = none) ρ s s') {f f' : Option γ -> Sem β} (hf : ∀ ρ₁, Ext ρ ρ₁ -> SRel P F B ρ₁ (f none) (f' none)) : SRel P F B ρ (s >>= f) (s' >>= f') :=
 h.bind fun ρ₁ h₁ a a' e => by rw [e.1, e.2]; exact hf ρ₁ h₁
theorem sr_viewAt {r r' : Nat} (hr : ρ r r') : SRel P F (fun _ a a' => a = none /\ a' = none) ρ (viewAt r) (viewAt r') := by
 unfold viewAt
 refine .shape hr fun s => ?_
 cases s with
 | some x => exact .pure ⟨rfl, rfl⟩
 | none =>
   refine .look hr fun o o' ho hn => ?_
   cases ho with
   | cells e f h => exact absurd rfl (hn _ _ _)
   | chan => exact .pure ⟨rfl, rfl⟩
   | number => exact .pure ⟨rfl, rfl⟩
theorem sr_numberAt {r r' : Nat} (hr : ρ r r') : SRel P F (fun ρ a a' => OpRel (fun x y : Addr × Bool => ARel ρ x.1 y.1 /\ x.2 = y.2) a a') ρ (numberAt r) (numberAt r') := by
 unfold numberAt
 refine .shape hr fun s => ?_
 cases s with
 | some x => exact .pure .none
 | none =>
   refine .look hr fun o o' ho hn => ?_
   cases ho with
   | cells e f h => exact absurd rfl (hn _ _ _)
   | chan => exact .pure .none
   | number l h => exact .pure (.some ⟨h, rfl⟩)
theorem sr_behind {a a' : Addr} (ha : ARel ρ a a') : SRel P F (fun ρ x y => ARel ρ x.1 y.1 /\ x.2 = y.2) ρ (behindNumber a) (behindNumber a') := by
 unfold behindNumber
 refine (sr_numberAt ha.block).bind fun ρ₁ h₁ x y h => .pure ?_
 cases h with
 | none => exact ⟨ha.mono h₁, rfl⟩
 | some h => exact h
theorem sr_asNumber {a a' : Addr} (ha : ARel ρ a a') (l : Bool) : SV P F ρ (asNumber a l) (asNumber a' l) := by
 unfold asNumber newObj
 exact .new (.number l ha) (by simp [isChan, Obj.isChan]) fun r r' => .pure (.pointer (.some (ar_new r r' 0)))
theorem se_noView {a a' : Addr} (ha : ARel ρ a a') : SE P F ρ (noView a) (noView a') := by
 unfold noView
 exact (sr_viewAt ha.block).nones fun ρ₁ h₁ => .pure rfl
theorem se_frozen {a a' : Addr} (ha : ARel ρ a a') : SE P F ρ (frozen a) (frozen a') := .frozen ha fun s => .pure rfl
theorem se_shape {r r' : Nat} (hr : ρ r r') : SE P F ρ (shape r) (shape r') := .shape hr fun s => .pure rfl
theorem se_stringish {a a' : Addr} (ha : ARel ρ a a') : SE P F ρ (stringish a) (stringish a') := by
 unfold stringish
 refine (se_frozen ha).eqs fun ρ₁ h₁ b => ?_
 cases b
 · refine (se_shape (h₁ _ _ ha.block)).eqs fun ρ₂ h₂ s => ?_
   cases s with
   | none => exact .pure rfl
   | some x => exact se_frozen ⟨h₂ _ _ (h₁ _ _ ha.block), rfl, rfl⟩
 · exact .pure rfl
theorem se_none {a a' : Addr} (ha : ARel ρ a a') : SE P F ρ (do pure ((<- shape a.block) matches some (_, 0)) : Sem Bool) (do pure ((<- shape a'.block) matches some (_, 0)) : Sem Bool) :=
 (se_shape ha.block).eqs fun _ _ s => .pure rfl
theorem se_mayBeOne {a a' b b' : Addr} (ha : ARel ρ a a') (hb : ARel ρ b b') : SE P F ρ (mayBeOne a b) (mayBeOne a' b') := by
 unfold mayBeOne
 dsimp only
 refine (se_stringish ha).eqs fun ρ₁ h₁ x => ?_
 refine (se_stringish (hb.mono h₁)).eqs fun ρ₂ h₂ y => ?_
 refine (se_none ((ha.mono h₁).mono h₂)).eqs fun ρ₃ h₃ z => ?_
 refine (se_none (((hb.mono h₁).mono h₂).mono h₃)).eqs fun ρ₄ h₄ u => ?_
 exact .pure rfl
theorem beq_addr (h1 : One P.globals.size ρ) {a a' b b' : Addr} (ha : ARel ρ a a') (hb : ARel ρ b b') : (a == b) = (a' == b') := by
 have e : (a = b) ↔ (a' = b') := by
   obtain ⟨x, o, s⟩ := a; obtain ⟨x', o', s'⟩ := a'; obtain ⟨y, p, t⟩ := b; obtain ⟨y', p', t'⟩ := b'
   have := h1.inj _ _ _ _ ha.block hb.block
   have e1 := ha.off; have e2 := hb.off; have e3 := ha.spot; have e4 := hb.spot
   simp only at this e1 e2 e3 e4
   subst e1; subst e2; subst e3; subst e4
   simp only [Addr.mk.injEq, this]
 by_cases h : a = b
 · simp [h, e.1 h]
 · have h' : ¬ a' = b' := fun k => h (e.2 k)
   rw [beq_eq_false_iff_ne.2 h, beq_eq_false_iff_ne.2 h']
theorem beq_block (h1 : One P.globals.size ρ) {a a' b b' : Addr} (ha : ARel ρ a a') (hb : ARel ρ b b') : (a.block == b.block) = (a'.block == b'.block) := by
 have e := h1.inj _ _ _ _ ha.block hb.block
 by_cases h : a.block = b.block
 · simp [h, e.1 h]
 · have h' : ¬ a'.block = b'.block := fun k => h (e.2 k)
   rw [beq_eq_false_iff_ne.2 h, beq_eq_false_iff_ne.2 h']
theorem se_sameAddr {a a' b b' : Addr} (ha : ARel ρ a a') (hb : ARel ρ b b') : SE P F ρ (sameAddr a b) (sameAddr a' b') := by
 refine .use fun h1 => ?_
 unfold sameAddr
 rw [beq_block h1 ha hb]
 cases (a'.block == b'.block)
 · refine (se_frozen ha).eqs fun ρ₁ h₁ x => ?_
   refine (se_frozen (hb.mono h₁)).eqs fun ρ₂ h₂ y => ?_
   have ha2 := (ha.mono h₁).mono h₂
   have hb2 := (hb.mono h₁).mono h₂
   cases x <;> cases y
   case true.true => exact SRel.dead (h := .unsupported .addressObserved) trivial
   all_goals
     refine (se_noView ha2).eqs fun ρ₃ h₃ _ => ?_
     refine (se_noView (hb2.mono h₃)).eqs fun ρ₄ h₄ _ => ?_
     refine (se_mayBeOne ((ha2.mono h₃).mono h₄) ((hb2.mono h₃).mono h₄)).eqs fun ρ₅ h₅ b => ?_
     cases b
     · exact .pure rfl
     · exact .choose fun n => .pure rfl
 · rw [beq_addr h1 ha hb]
   exact .pure rfl
theorem se_samePointer {a a' b b' : Option Addr} (ha : OpRel (ARel ρ) a a') (hb : OpRel (ARel ρ) b b') : SE P F ρ (samePointer a b) (samePointer a' b') := by
 cases ha <;> cases hb <;> first | exact .pure rfl | (rename_i x y; first | exact se_sameAddr ‹_› ‹_›)
theorem se_byteOf {a a' : Addr} (ha : ARel ρ a a') : SE P F ρ (byteOf a) (byteOf a') := by
 unfold byteOf
 rw [ha.spot, ha.off]
 cases a'.spot with
 | some s => exact .pure rfl
 | none =>
   refine sr_program ?_
   refine (se_noView ha).eqs fun ρ₁ h₁ _ => ?_
   refine (se_shape (h₁ _ _ ha.block)).eqs fun ρ₂ h₂ s => ?_
   cases s with
   | none => exact .dead trivial
   | some x =>
     obtain ⟨e, n⟩ := x
     dsimp only
     split
     · exact .pure rfl
     · split
       · exact .pure rfl
       · exact .dead trivial
theorem lt_low (h1 : One P.globals.size ρ) {a a' : Addr} (ha : ARel ρ a a') : decide (a.block < P.globals.size) = decide (a'.block < P.globals.size) := decide_eq_decide.2 (h1.low _ _ ha.block)
theorem SRel.dead_of {s s' : Sem α} {h : Halt} (hh : deadHalt h) (e : s = .halt h) : SRel P F A ρ s s' := by rw [e]; exact .dead hh
theorem se_equalL : ∀ (d : Nat) (t : TypeId) {ρ : Rn} {cs : Array Value} {x' y y' : Value}, SE P F ρ (Op.equalIn d t (.tuple cs) y) (Op.equalIn d t x' y')
 | 0, t, ρ, cs, x', y, y' => .dead (by simp [deadHalt])
 | d + 1, t, ρ, cs, x', y, y' => by
   unfold Op.equalIn
   refine sr_underlying fun k _ => ?_
   cases k <;> first | exact .dead trivial | (cases y <;> exact .dead trivial) | skip
   all_goals (cases y <;> first | exact .dead trivial | skip)
   all_goals first | (rename_i z; cases z <;> exact .dead trivial) | (rename_i a n m; cases a <;> cases n <;> cases m <;> exact .dead trivial)
theorem se_equalR : ∀ (d : Nat) (t : TypeId) {ρ : Rn} {cs : Array Value} {x x' y' : Value}, SE P F ρ (Op.equalIn d t x (.tuple cs)) (Op.equalIn d t x' y')
 | 0, t, ρ, cs, x, x', y' => .dead (by simp [deadHalt])
 | d + 1, t, ρ, cs, x, x', y' => by
   unfold Op.equalIn
   refine sr_underlying fun k _ => ?_
   cases k <;> first | exact .dead trivial | (cases x <;> exact .dead trivial) | skip
   all_goals (cases x <;> first | exact .dead trivial | skip)
   all_goals first | (rename_i z; cases z <;> exact .dead trivial) | (rename_i a n m; cases a <;> cases n <;> cases m <;> exact .dead trivial)
theorem se_equalIn : ∀ (d : Nat) (t : TypeId) {ρ : Rn} {x x' y y' : Value}, VRel F ρ x x' -> VRel F ρ y y' -> SE P F ρ (Op.equalIn d t x y) (Op.equalIn d t x' y')
 | 0, t, ρ, x, x', y, y', hx, hy => .dead (by simp [deadHalt])
 | d + 1, t, ρ, x, x', y, y', hx, hy => by
   unfold Op.equalIn
   refine sr_underlying fun k _ => ?_
   cases k <;> cases hx <;> first | exact .dead trivial | skip
   all_goals (cases hy <;> first | exact .dead trivial | skip)
   all_goals try (cases ‹OpRel (ARel ρ) _ _›)
   all_goals try (cases ‹OpRel (ARel ρ) _ _›)
   all_goals try first | exact .dead trivial | exact .pure rfl
   all_goals try (cases ‹OpRel ρ _ _›)
   all_goals try (cases ‹OpRel ρ _ _›)
   all_goals try first | exact .dead trivial | exact .pure rfl
   case int.int.int =>
     dsimp only
     split
     · exact .pure rfl
     · exact .dead trivial
   case int.int.pointer.some k1 k2 n a a' ha =>
     by_cases h : n = 0
     · subst h; exact .pure rfl
     · refine SRel.dead_of (h := .unsupported .addressObserved) trivial ?_
       split <;> first | rfl | simp_all
   case int.pointer.int.some k1 k2 n a a' ha =>
     by_cases h : n = 0
     · subst h; exact .pure rfl
     · refine SRel.dead_of (h := .unsupported .addressObserved) trivial ?_
       split <;> first | rfl | simp_all
   case int.pointer.pointer.some.some k b b' hb a a' ha =>
     dsimp only
     refine (sr_behind ha).bind fun ρ₁ h₁ x x' hx => ?_
     refine (sr_behind (hb.mono h₁)).bind fun ρ₂ h₂ y y' hy => ?_
     have hx := hx.1.mono h₂
     have hy := hy.1
     refine .use fun h1 => ?_
     skip
     refine sr_program ?_
     rw [beq_block h1 hx hy, lt_low h1 hx]
     split
     · refine (se_byteOf hx).eqs fun ρ₃ h₃ u => (se_byteOf (hy.mono h₃)).eqs fun ρ₄ h₄ v => .pure rfl
     · refine sr_typeInfo fun i _ => ?_
       rw [beq_addr h1 hx hy]
       split
       · split
         · exact .pure rfl
         · exact .dead trivial
       · exact .dead trivial
   case unsafePointer.pointer.pointer.some.some => exact se_samePointer (.some ‹_›) (.some ‹_›)
   case pointer.pointer.pointer.some.some e b b' hb a a' ha =>
     dsimp only
     refine sr_sizeOf fun i _ => ?_
     refine .use fun h1 => ?_
     rw [beq_addr h1 ha hb]
     split
     · exact se_sameAddr ha hb
     · split
       · exact .pure rfl
       · exact .choose fun n => .pure rfl
   case chan.chan.chan.some.some d e b b' hb a a' ha =>
     refine .use fun h1 => .pure ?_
     have := h1.inj _ _ _ _ ha hb
     by_cases e : a = b
     · simp [e, this.1 e]
     · have e' : ¬ a' = b' := fun k => e (this.2 k)
       have q1 : (some a == some b) = false := by simp [e]
       have q2 : (some a' == some b') = false := by simp [e']
       rw [q1, q2]
   case interface.iface.iface ms tx v v' hv ty u u' hu =>
     dsimp only
     split
     · exact .pure rfl
     · refine sr_typeInfo fun i _ => ?_
       split
       · refine sr_program (sr_program ?_)
         skip
         split
         · exact SRel.dead (h := .unsupported _) (by simp [deadHalt])
         · exact sr_typeStr fun s => sr_runtimePanic trivial
       · exact se_equalIn d tx hv hu
   case interface.iface.far ms tx v v' hv ty b o ht =>
     dsimp only
     split
     · exact .pure rfl
     · refine sr_typeInfo fun i _ => ?_
       split
       · refine sr_program (sr_program ?_)
         skip
         split
         · exact SRel.dead (h := .unsupported _) (by simp [deadHalt])
         · exact sr_typeStr fun s => sr_runtimePanic trivial
       · exact se_equalR d tx
   case interface.far.iface ms tx b o ht ty u u' hu =>
     dsimp only
     split
     · exact .pure rfl
     · refine sr_typeInfo fun i _ => ?_
       split
       · refine sr_program (sr_program ?_)
         skip
         split
         · exact SRel.dead (h := .unsupported _) (by simp [deadHalt])
         · exact sr_typeStr fun s => sr_runtimePanic trivial
       · exact se_equalL d tx
   case interface.far.far ms tx b o ht ty b2 o2 ht2 =>
     dsimp only
     split
     · exact .pure rfl
     · refine sr_typeInfo fun i _ => ?_
       split
       · refine sr_program (sr_program ?_)
         skip
         split
         · exact SRel.dead (h := .unsupported _) (by simp [deadHalt])
         · exact sr_typeStr fun s => sr_runtimePanic trivial
       · exact se_equalL d tx
   case struct.agg.agg fs cs cs' n1 h1 ds ds' n2 h2 =>
     have hc : VsRel F ρ cs cs' := ⟨n1, h1⟩
     have hd : VsRel F ρ ds ds' := ⟨n2, h2⟩
     refine sr_program ?_
     dsimp only
     split
     · exact SRel.dead (h := .unsupported _) (by simp [deadHalt])
     · refine (se_forIn_array _ _ fun ρ₁ h₁ f b => ?_).eqs fun ρ₁ h₁ s => ?_
       · split
         · refine (sr_part (hc.mono h₁) _ _).bind fun ρ₂ h₂ u u' hu => (sr_part ((hd.mono h₁).mono h₂) _ _).bind fun ρ₃ h₃ v v' hv => (se_equalIn d f.type (hu.mono h₃) hv).eqs fun ρ₄ h₄ x => ?_
           cases x <;> exact .pure rfl
         · exact .pure rfl
       · obtain ⟨s, _⟩ := s
         cases s <;> exact .pure rfl
   case array.agg.agg n e _ cs cs' n1 h1 ds ds' n2 h2 =>
     have hc : VsRel F ρ cs cs' := ⟨n1, h1⟩
     have hd : VsRel F ρ ds ds' := ⟨n2, h2⟩
     refine sr_sizeOf fun i _ => ?_
     refine (se_forIn_range _ _ fun ρ₁ h₁ f b => ?_).eqs fun ρ₁ h₁ s => ?_
     · refine (sr_part (hc.mono h₁) _ _).bind fun ρ₂ h₂ u u' hu => (sr_part ((hd.mono h₁).mono h₂) _ _).bind fun ρ₃ h₃ v v' hv => (se_equalIn d e (hu.mono h₃) hv).eqs fun ρ₄ h₄ x => ?_
       cases x <;> exact .pure rfl
     · obtain ⟨s, _⟩ := s
       cases s <;> exact .pure rfl
theorem se_equal (t : TypeId) {x x' y y' : Value} (hx : VRel F ρ x x') (hy : VRel F ρ y y') : SE P F ρ (Op.equal t x y) (Op.equal t x' y') := se_equalIn _ t hx hy
end
end Go.Bsd
namespace Go.Bsd
open Go.Conc
section
variable {P : Program} {F : FuncId -> Prop} {ρ : Rn} {α β : Type} {A : Rn -> α -> α -> Prop} {B : Rn -> β -> β -> Prop}
theorem se_eqGuardIn : ∀ (d : Nat) (t : TypeId) {ρ : Rn} {x x' y y' : Value}, VRel F ρ x x' -> VRel F ρ y y' -> SE P F ρ (Op.eqGuardIn d t x y) (Op.eqGuardIn d t x' y')
 | 0, t, ρ, x, x', y, y', hx, hy => .dead (by simp [deadHalt])
 | d + 1, t, ρ, x, x', y, y', hx, hy => by
   unfold Op.eqGuardIn
   refine sr_underlying fun k _ => ?_
   cases k <;> try exact .pure rfl
   case interface ms => cases hx <;> cases hy <;> exact .pure rfl
   case struct fs =>
     cases hx <;> try exact .pure rfl
     rename_i cs cs' n1 h1
     cases hy <;> try exact .pure rfl
     rename_i ds ds' n2 h2
     have hc : VsRel F ρ cs cs' := ⟨n1, h1⟩
     have hd : VsRel F ρ ds ds' := ⟨n2, h2⟩
     refine (se_forIn_array _ _ fun ρ₁ h₁ f b => ?_).eqs fun ρ₁ h₁ s => ?_
     · split
       · refine (sr_part (hc.mono h₁) _ _).bind fun ρ₂ h₂ u u' hu => (sr_part ((hd.mono h₁).mono h₂) _ _).bind fun ρ₃ h₃ v v' hv => (se_eqGuardIn d f.type (hu.mono h₃) hv).eqs fun ρ₄ h₄ x => ?_
         cases x <;> exact .pure rfl
       · exact .pure rfl
     · obtain ⟨s, _⟩ := s
       cases s <;> exact .pure rfl
   case array n e _ =>
     cases hx <;> try exact .pure rfl
     rename_i cs cs' n1 h1
     cases hy <;> try exact .pure rfl
     rename_i ds ds' n2 h2
     have hc : VsRel F ρ cs cs' := ⟨n1, h1⟩
     have hd : VsRel F ρ ds ds' := ⟨n2, h2⟩
     refine sr_sizeOf fun i _ => ?_
     refine (se_forIn_range _ _ fun ρ₁ h₁ f b => ?_).eqs fun ρ₁ h₁ s => ?_
     · refine (sr_part (hc.mono h₁) _ _).bind fun ρ₂ h₂ u u' hu => (sr_part ((hd.mono h₁).mono h₂) _ _).bind fun ρ₃ h₃ v v' hv => (se_eqGuardIn d e (hu.mono h₃) hv).eqs fun ρ₄ h₄ x => ?_
       cases x <;> exact .pure rfl
     · obtain ⟨s, _⟩ := s
       cases s <;> exact .pure rfl
theorem se_eqGuard (op : BinOp) (t : TypeId) (x y : Operand) {a a' b b' : Value} (ha : VRel F ρ a a') (hb : VRel F ρ b b') : SE P F ρ (eqGuard op t x y a b) (eqGuard op t x y a' b') := by
 unfold eqGuard
 generalize (!(op matches .eql | .neq)) = g
 cases g
 case true => exact .pure rfl
 case false =>
   simp only [Bool.false_eq_true, if_false]
   cases ha <;> try exact .pure rfl
   case nilIface =>
     cases hb <;> try exact .pure rfl
     have tail : SE P F ρ (do if <- Op.eqGuardIn Op.maxDepth t .nilIface .nilIface then unsupported (.noEntry "binop/eql: two nil values of an interface type with methods, neither of them the literal nil")) (do if <- Op.eqGuardIn Op.maxDepth t .nilIface .nilIface then unsupported (.noEntry "binop/eql: two nil values of an interface type with methods, neither of them the literal nil")) := by
       refine (se_eqGuardIn _ t .nilIface .nilIface).eqs fun ρ₁ h₁ z => ?_
       cases z
       · exact .pure rfl
       · exact SRel.dead (h := .unsupported _) (by simp [deadHalt])
     dsimp only
     repeat' first | exact .pure rfl | exact tail | split
   case agg cs cs' n1 h1 =>
     cases hb <;> try exact .pure rfl
     rename_i ds ds' n2 h2
     dsimp only
     refine sr_program (sr_program ?_)
     split
     · exact .pure rfl
     · refine (se_eqGuardIn _ t (.agg n1 h1) (.agg n2 h2)).eqs fun ρ₁ h₁ z => ?_
       cases z
       · exact .pure rfl
       · exact SRel.dead (h := .unsupported _) (by simp [deadHalt])
theorem sr_unsafeAdd {p p' : Option Addr} (hp : OpRel (ARel ρ) p p') {n n' : Value} (hn : VRel F ρ n n') (ts : Array TypeId) (t : TypeId) : SV P F ρ (Builtin.unsafeAdd_ ts t #[.pointer p, n]) (Builtin.unsafeAdd_ ts t #[.pointer p', n']) := by
 unfold Builtin.unsafeAdd_
 dsimp only
 refine sr_asInt hn fun i => ?_
 have neg : ∀ (a a' : Addr), ARel ρ a a' -> SV P F ρ (do
     let some (e, cells) <- shape a.block | unsupported (.unsafePointer "Add")
     let p <- program
     match cellAtBytes p p.depth e (cells / p.cellsOf e) a.off i with
     | some off => pure (.pointer (some { a with off }))
     | none => unsupported (.unsafePointer "Add")) (do
     let some (e, cells) <- shape a'.block | unsupported (.unsafePointer "Add")
     let p <- program
     match cellAtBytes p p.depth e (cells / p.cellsOf e) a'.off i with
     | some off => pure (.pointer (some { a' with off }))
     | none => unsupported (.unsafePointer "Add")) := by
   intro a a' ha
   refine (se_shape ha.block).eqs fun ρ₁ h₁ s => ?_
   cases s with
   | none => exact .dead (by simp [deadHalt])
   | some x =>
     refine sr_program ?_
     rw [ha.off]
     cases cellAtBytes P P.depth x.1 (x.2 / P.cellsOf x.1) a'.off i with
     | none => exact .dead (by simp [deadHalt])
     | some o => exact .pure (.pointer (.some ⟨h₁ _ _ ha.block, rfl, ha.spot⟩))
 split
 · cases hp with
   | none => exact SRel.dead (h := .unsupported _) (by simp [deadHalt])
   | some ha =>
     exact (sr_viewAt ha.block).nones fun ρ₁ h₁ => .pure (.pointer (.some (ha.mono h₁)))
 · split
   · exact SRel.dead (h := .unsupported _) (by simp [deadHalt])
   · cases hp with
     | none => exact SRel.dead (h := .unsupported _) (by simp [deadHalt])
     | some ha => exact neg _ _ ha
theorem sr_movedNumber (t : TypeId) {p p' : Option Addr} (hp : OpRel (ARel ρ) p p') {n n' : Value} (hn : VRel F ρ n n') : SV P F ρ (movedNumber t (.pointer p) n) (movedNumber t (.pointer p') n') := by
 unfold movedNumber
 refine sr_underlying fun d _ => ?_
 dsimp only
 split
 · exact SRel.dead (h := .unsupported _) (by simp [deadHalt])
 · cases hp with
   | none => exact sr_unsafeAdd .none hn #[] t
   | some ha =>
     dsimp only
     refine (sr_behind ha).bind fun ρ₁ h₁ x y hxy => ?_
     obtain ⟨a, l⟩ := x
     obtain ⟨a', l'⟩ := y
     obtain ⟨h1, h2⟩ := hxy
     simp only at h1 h2
     subst h2
     dsimp only
     refine (sr_unsafeAdd (.some h1) (hn.mono h₁) #[] t).bind fun ρ₂ h₂ u u' hu => ?_
     cases hu with
     | pointer h =>
       cases h with
       | none => exact .pure (.pointer .none)
       | some h => exact sr_asNumber h l
     | bool b => exact .pure (.bool b)
     | int k n => exact .pure (.int k n)
     | string s => exact .pure (.string s)
     | slice n m x => exact .pure (.slice n m x)
     | chan x => exact .pure (.chan x)
     | func hf n1 h1 n2 h2 => exact .pure (.func hf n1 h1 n2 h2)
     | nilFunc => exact .pure .nilFunc
     | iface t h => exact .pure (.iface t h)
     | far t b o ht => exact .pure (.far t b o ht)
     | nilIface => exact .pure .nilIface
     | agg n h => exact .pure (.agg n h)
     | tuple n h => exact .pure (.tuple n h)
theorem sr_movedPointer (t : TypeId) {p p' : Option Addr} (hp : OpRel (ARel ρ) p p') {n n' : Value} (hn : VRel F ρ n n') : SV P F ρ (movedPointer t (.pointer p) n) (movedPointer t (.pointer p') n') := by
 unfold movedPointer
 cases hp with
 | none => exact sr_unsafeAdd .none hn #[] t
 | some ha =>
   dsimp only
   refine (sr_numberAt ha.block).bind fun ρ₁ h₁ x y hxy => ?_
   cases hxy with
   | none => exact sr_unsafeAdd (.some (ha.mono h₁)) (hn.mono h₁) #[] t
   | some h => exact SRel.dead (h := .unsupported _) (by simp [deadHalt])
theorem se_twoPlaces {a a' b b' : Addr} (ha : ARel ρ a a') (hb : ARel ρ b b') : SE P F ρ (Op.twoPlaces a b) (Op.twoPlaces a' b') := by
 refine .use fun h1 => ?_
 unfold Op.twoPlaces
 refine sr_program ?_
 have e1 : (a.block != b.block) = (a'.block != b'.block) := by unfold bne; rw [beq_block h1 ha hb]
 have e2 : decide (a.block ≥ P.globals.size) = decide (a'.block ≥ P.globals.size) := decide_eq_decide.2 (by have := h1.low _ _ ha.block; omega)
 dsimp only
 rw [e1, e2]
 split
 · exact SRel.dead (h := .unsupported _) (by simp [deadHalt])
 · exact (se_byteOf ha).eqs fun ρ₁ h₁ x => (se_byteOf (hb.mono h₁)).eqs fun ρ₂ h₂ y => .pure rfl
theorem sr_addrSub (k : IntKind) {a a' b b' : Addr} (ha : ARel ρ a a') (hb : ARel ρ b b') : SV P F ρ (Op.addrSub k a b) (Op.addrSub k a' b') := by
 unfold Op.addrSub
 exact (se_twoPlaces ha hb).eqs fun ρ₁ h₁ x => .pure (.int _ _)
theorem sr_addrCmp (op : BinOp) {a a' b b' : Addr} (ha : ARel ρ a a') (hb : ARel ρ b b') : SV P F ρ (Op.addrCmp op a b) (Op.addrCmp op a' b') := by
 unfold Op.addrCmp
 refine (se_twoPlaces ha hb).eqs fun ρ₁ h₁ x => ?_
 obtain ⟨x, y⟩ := x
 cases op <;> first | exact .pure (.bool _) | exact .dead (by simp [deadHalt])
theorem sr_addrMod (k : IntKind) {a a' : Addr} (ha : ARel ρ a a') (n : Int) : SV P F ρ (Op.addrMod k a n) (Op.addrMod k a' n) := by
 unfold Op.addrMod
 refine (se_shape ha.block).eqs fun ρ₁ h₁ s => ?_
 cases s with
 | none => exact .dead (by simp [deadHalt])
 | some x =>
   refine sr_typeInfo fun i _ => ?_
   dsimp only
   split
   · exact SRel.dead (h := .unsupported _) (by simp [deadHalt])
   · exact (se_byteOf (ha.mono h₁)).eqs fun ρ₂ h₂ y => .pure (.int _ _)
theorem sr_stringOp (op : BinOp) (x y : ByteArray) : SV P F ρ (Op.stringOp op x y) (Op.stringOp op x y) := by
 unfold Op.stringOp
 cases op <;> first
   | exact .pure (.bool _)
   | exact .dead (by simp [deadHalt])
   | (dsimp only; split <;> first | exact .pure (.string _) | exact .dead (by simp [deadHalt]))
theorem sr_shift (op : BinOp) (k : IntKind) (x : Int) (yk : IntKind) (y : Int) : SV P F ρ (Op.shift op k x yk y) (Op.shift op k x yk y) := by
 unfold Op.shift
 split
 · exact sr_runtimePanic trivial
 · cases op <;> first | exact .pure (.int _ _) | exact .dead trivial
theorem sr_intArith (op : BinOp) (k : IntKind) (x y : Int) : SV P F ρ (Op.intArith op k x y) (Op.intArith op k x y) := by
 unfold Op.intArith
 cases op <;> first | exact .pure (.int _ _) | exact .dead trivial
theorem sr_intDiv (op : BinOp) (k : IntKind) (x y : Int) : SV P F ρ (Op.intDiv op k x y) (Op.intDiv op k x y) := by
 unfold Op.intDiv
 split
 · exact sr_runtimePanic trivial
 · cases op <;> first | exact .pure (.int _ _) | exact .dead trivial
theorem sr_intBits (op : BinOp) (k : IntKind) (x y : Int) : SV P F ρ (Op.intBits op k x y) (Op.intBits op k x y) := by
 unfold Op.intBits
 cases op <;> first | exact .pure (.int _ _) | exact .dead trivial
theorem sr_intCmp (op : BinOp) (x y : Int) : SV P F ρ (Op.intCmp op x y) (Op.intCmp op x y) := by
 unfold Op.intCmp
 cases op <;> first | exact .pure (.bool _) | exact .dead trivial
theorem sr_unary (op : UnOp) {x x' : Value} (hx : VRel F ρ x x') : SV P F ρ (Op.unary op x) (Op.unary op x') := by
 unfold Op.unary
 cases op <;> cases hx <;> first
   | exact .dead trivial
   | exact sr_intArith _ _ _ _
   | exact sr_intBits _ _ _ _
   | exact .pure (.bool _)
   | (rename_i h; cases h <;> exact .dead (by simp [deadHalt]))
theorem sr_binOp (op : BinOp) (t : TypeId) {x x' y y' : Value} (hx : VRel F ρ x x') (hy : VRel F ρ y y') : SV P F ρ (binOp op t x y) (binOp op t x' y') := by
 have eqs : SV P F ρ (do pure (.bool (<- Op.equal t x y))) (do pure (.bool (<- Op.equal t x' y'))) := (se_equal t hx hy).eqs fun ρ₁ h₁ b => .pure (.bool _)
 have neqs : SV P F ρ (do pure (.bool (!(<- Op.equal t x y)))) (do pure (.bool (!(<- Op.equal t x' y')))) := (se_equal t hx hy).eqs fun ρ₁ h₁ b => .pure (.bool _)
 unfold binOp
 cases hx <;> cases hy <;> cases op <;> first
   | exact eqs
   | exact neqs
   | exact .dead trivial
   | exact .dead (by simp [deadHalt])
   | skip
 all_goals try first
   | exact sr_stringOp _ _ _
   | exact sr_shift _ _ _ _ _
   | (dsimp only; split <;> first | exact .dead trivial | exact sr_intArith _ _ _ _ | exact sr_intDiv _ _ _ _ | exact sr_intBits _ _ _ _ | exact sr_intCmp _ _ _; done)
 case pointer.int.add h k n =>
   refine sr_underlying fun d _ => ?_
   split
   · exact sr_movedPointer t h (.int k n)
   · exact sr_movedNumber t h (.int k n)
 case pointer.int.sub h k n => exact sr_movedNumber t h (.int k (-n))
 case int.pointer.add k n _ _ h => exact sr_movedNumber t h (.int k n)
 all_goals try (cases ‹OpRel (ARel ρ) _ _›)
 all_goals try (cases ‹OpRel (ARel ρ) _ _›)
 all_goals try first
   | exact .dead trivial
   | exact .dead (by simp [deadHalt])
   | (exact (sr_behind ‹_›).bind fun ρ₁ h₁ x x' hx => sr_addrMod _ hx.1 _)
 all_goals
   rename_i hb _ _ ha
   refine (sr_behind ha).bind fun ρ₁ h₁ x x' hx => (sr_behind (hb.mono h₁)).bind fun ρ₂ h₂ y y' hy => ?_
   first
     | exact sr_addrSub _ (hx.1.mono h₂) hy.1
     | exact sr_addrCmp _ (hx.1.mono h₂) hy.1
end
end Go.Bsd
namespace Go.Bsd
open Go.Conc
section
variable {P : Program} {F : FuncId -> Prop} {ρ : Rn} {α β : Type} {A : Rn -> α -> α -> Prop} {B : Rn -> β -> β -> Prop}
theorem sr_noEntry (m : String) (s' : Sem α) : SRel P F A ρ (unsupported (.noEntry m)) s' := .dead trivial
/-! ### conversions -/
def okConv (P : Program) (s d : TypeId) : Bool :=
 match P.underlying s, P.underlying d with
 | some (.int _), some (.int _) => true
 | some .string, some .string => true
 | some .string, some (.slice e) => (match P.underlying e with | some (.int .u8) => true | _ => false)
 | some (.slice e), some .string => (match P.underlying e with | some (.int .u8) => true | _ => false)
 | _, _ => false
theorem sr_markStringish {a a' : Addr} (ha : ARel ρ a a') : SE P F ρ (markStringish a) (markStringish a') := by
 unfold markStringish
 refine (se_shape ha.block).eqs fun ρ₁ h₁ s => ?_
 cases s with
 | none => exact .pure rfl
 | some x => exact .freeze ⟨h₁ _ _ ha.block, rfl, rfl⟩ (.pure rfl)
theorem sr_stringToBytes (e : TypeId) (s : ByteArray) : SV P F ρ (Conv.stringToBytes e s) (Conv.stringToBytes e s) := by
 unfold Conv.stringToBytes
 refine .choose fun n => ?_
 refine sr_newRow (vsRel_gr fun v hv => ?_) fun r r' => ?_
 · rcases Array.mem_append.1 hv with hv | hv
   · obtain ⟨b, _, rfl⟩ := Array.mem_map.1 hv
     exact fun F ρ => .int _ _
   · obtain rfl := (Array.mem_replicate.1 hv).2
     exact fun F ρ => .int _ _
 · exact (sr_markStringish (ar_new r r' 0)).eqs fun ρ₁ h₁ _ => .pure (.slice _ _ (.some ((ar_new r r' 0).mono h₁)))
theorem sr_forIn {γ : Type} (f : Value -> γ -> Sem (ForInStep γ)) (hf : ∀ (ρ : Rn) v v' acc, VRel F ρ v v' -> SE P F ρ (f v acc) (f v' acc)) : ∀ (l l' : List Value) {ρ : Rn} (acc : γ), l.length = l'.length -> (∀ (j : Nat) v v', l[j]? = some v -> l'[j]? = some v' -> VRel F ρ v v') ->
   SE P F ρ (forIn l acc f) (forIn l' acc f)
 | [], [], _, acc, _, _ => .pure rfl
 | [], _ :: _, _, _, h, _ => by simp at h
 | _ :: _, [], _, _, h, _ => by simp at h
 | x :: l, y :: l', ρ, acc, h, hv => by
   simp only [List.forIn_cons]
   refine (hf ρ x y acc (hv 0 x y rfl rfl)).eqs fun ρ₁ h₁ r => ?_
   cases r with
   | done a => exact .pure rfl
   | yield a => exact sr_forIn f hf l l' a (by simpa using h) fun j v v' e e' => (hv (j + 1) v v' e e').mono h₁
theorem sr_bytesToString {x x' : Value} (hx : VRel F ρ x x') : SV P F ρ (Conv.bytesToString x) (Conv.bytesToString x') := by
 unfold Conv.bytesToString
 cases hx <;> first | exact .dead trivial | skip
 rename_i n m ha
 cases ha with
 | none => exact .pure (.string _)
 | some ha =>
   refine (sr_loadCells ha n).bind fun ρ₁ h₁ c c' hc => ?_
   rw [<- Array.forIn_toList, <- Array.forIn_toList]
   refine SRel.eqs (sr_forIn _ (fun ρ v v' acc hv => ?_) c.toList c'.toList _ (by simpa using hc.size) fun j v v' e e' => hc.all j v v' (by simpa using e) (by simpa using e')) fun ρ₂ h₂ z => .pure (.string _)
   cases hv <;> first | exact .dead trivial | skip
   rename_i k n
   cases k <;> first | exact .dead trivial | exact .pure rfl
theorem sr_convert {s d : TypeId} (hok : okConv P s d = true) {x x' : Value} (hx : VRel F ρ x x') : SV P F ρ (convert s d x) (convert s d x') := by
 unfold convert
 refine sr_underlying fun ds hs => sr_underlying fun dd hd => ?_
 unfold okConv at hok
 rw [hs, hd] at hok
 cases ds <;> cases dd <;> first | (simp at hok; done) | skip
 · cases hx <;> first
     | exact .pure (.int _ _)
     | exact .dead (by simp [deadHalt])
     | (cases ‹OpRel (ARel ρ) _ _› <;> exact .dead (by simp [deadHalt]))
 · cases hx <;> first
     | exact .pure (.string _)
     | exact .pure (.string _)
     | exact .dead (by simp [deadHalt])
     | (cases ‹OpRel (ARel ρ) _ _› <;> exact .dead (by simp [deadHalt]))
 · rename_i e
   cases hx <;> first
     | exact .dead (by simp [deadHalt])
     | (cases ‹OpRel (ARel ρ) _ _› <;> exact .dead (by simp [deadHalt]); done)
     | skip
   · refine sr_underlying fun de he => ?_
     simp only [he] at hok
     cases de <;> first | (simp at hok; done) | skip
     rename_i k
     cases k <;> first | (simp at hok; done) | exact sr_stringToBytes _ _
 · rename_i e
   have main : SV P F ρ (do
       match <- underlying e with
       | .int .u8 => Conv.bytesToString x
       | .int .i32 => Conv.runesToString x
       | _ => stuck "Convert: a slice of what to string?") (do
       match <- underlying e with
       | .int .u8 => Conv.bytesToString x'
       | .int .i32 => Conv.runesToString x'
       | _ => stuck "Convert: a slice of what to string?") := by
     refine sr_underlying fun de he => ?_
     simp only [he] at hok
     cases de <;> first | (simp at hok; done) | skip
     rename_i k
     cases k <;> first | (simp at hok; done) | exact sr_bytesToString hx
   cases hx <;> first
     | exact main
     | (simp only [he] at main; exact main)
     | (cases ‹OpRel (ARel ρ) _ _› <;> exact main)
     | skip
   · dsimp only [Conv.intToString]
     repeat' first
       | exact .pure (.string _)
       | exact .dead trivial
       | split
   · exact .pure (.string _)
/-! ### places -/
theorem sr_fieldAt {s : TypeId} {i : Nat} (hok : ∀ fs f ti, P.underlying s = some (.struct fs) -> fs[i]? = some f -> P.info? f.type = some ti -> ti.size ≠ 0) {x x' : Value} (hx : VRel F ρ x x') : SV P F ρ (Instr.fieldAt s x i) (Instr.fieldAt s x' i) := by
 unfold Instr.fieldAt
 refine sr_underlying fun d hd => ?_
 cases d <;> first | exact .dead trivial | skip
 rename_i fs
 dsimp only
 cases hf : fs[i]? with
 | none => exact .dead trivial
 | some f =>
   dsimp only
   refine sr_sureAddr hx fun a a' ha => ?_
   unfold fieldPlace
   rw [bind_assoc, bind_assoc]
   refine sr_sizeOf fun ti hti => ?_
   rw [if_neg (hok fs f ti hd hf hti), if_neg (hok fs f ti hd hf hti)]
   exact .pure (.pointer (.some (ha.add _)))
theorem sr_indexAt (t : TypeId) {x x' i i' : Value} (hx : VRel F ρ x x') (hi : VRel F ρ i i') : SV P F ρ (Instr.indexAt t x i) (Instr.indexAt t x' i') := by
 unfold Instr.indexAt
 refine sr_asIntOf hi fun k n _ _ => ?_
 dsimp only
 have tail : ∀ (b b' : Option Addr) (len : Nat) (e : TypeId), OpRel (ARel ρ) b b' -> SV P F ρ (do
     let tiny := len <= 1 && (match <- underlying t with | .array .. => true | _ => false)
     match b with
     | some a =>
       if 0 <= n /\ n < len then pure (.pointer (some (a.add (n.toNat * (<- sizeOf e)))))
       else if tiny then unsupported (.noEntry "op/indexAddr.an index out of range at an array of length 0 or 1 (ledger 616)")
       else boundsPanic k n len .index
     | none => boundsPanic k n 0 .index) (do
     let tiny := len <= 1 && (match <- underlying t with | .array .. => true | _ => false)
     match b' with
     | some a =>
       if 0 <= n /\ n < len then pure (.pointer (some (a.add (n.toNat * (<- sizeOf e)))))
       else if tiny then unsupported (.noEntry "op/indexAddr.an index out of range at an array of length 0 or 1 (ledger 616)")
       else boundsPanic k n len .index
     | none => boundsPanic k n 0 .index) := by
   intro b b' len e hb
   refine sr_underlying fun d _ => ?_
   cases hb with
   | none => exact sr_boundsPanic _ _ _ _
   | some ha =>
     dsimp only
     split
     · exact sr_sizeOf fun ti _ => .pure (.pointer (.some (ha.add _)))
     · repeat' first
         | exact sr_noEntry _ _
         | exact sr_boundsPanic _ _ _ _
         | split
 refine sr_underlying fun d _ => ?_
 cases d <;> first | exact .dead trivial | skip
 · cases hx <;> first
     | exact .dead trivial
     | skip
   exact tail _ _ _ _ ‹_›
 · refine sr_sureAddr hx fun a a' ha => ?_
   exact tail _ _ _ _ (.some ha)
theorem sr_fieldV (t : TypeId) {x x' : Value} (hx : VRel F ρ x x') (i : Nat) : SV P F ρ (Instr.field t x i) (Instr.field t x' i) := by
 unfold Instr.field
 refine sr_underlying fun d hd => ?_
 cases d <;> first | exact .dead trivial | skip
 rename_i fs
 dsimp only
 cases fs[i]? with
 | none => exact .dead trivial
 | some f => exact sr_asAgg hx fun c c' hc => sr_part hc _ _
theorem sr_indexV (t : TypeId) {x x' i i' : Value} (hx : VRel F ρ x x') (hi : VRel F ρ i i') : SV P F ρ (Instr.index t x i) (Instr.index t x' i') := by
 unfold Instr.index
 refine sr_asIntOf hi fun k n _ _ => ?_
 dsimp only
 refine sr_underlying fun d _ => ?_
 cases d <;> cases hx <;> first | exact .dead trivial | skip
 · rename_i s
   dsimp only
   generalize (if 0 <= n then s[n.toNat]? else none) = o
   cases o with
   | none => exact sr_boundsPanic _ _ _ _
   | some b => exact .pure (.int _ _)
 · rename_i n1 h1
   dsimp only
   split
   · exact sr_sizeOf fun ti _ => sr_part ⟨n1, h1⟩ _ _
   · exact sr_boundsPanic _ _ _ _
theorem se_sliceBound {x x' : Value} (hx : VRel F ρ x x') (y : Nat) (c : BoundsCode) : SE P F ρ (Instr.sliceBound x y c) (Instr.sliceBound x' y c) := by
 unfold Instr.sliceBound
 refine sr_asIntOf hx fun k n _ _ => ?_
 dsimp only
 split
 · exact .pure rfl
 · exact sr_boundsPanic _ _ _ _
theorem se_sliceBounds (b : Bool) (len cap : Nat) {lo lo' hi hi' mx mx' : Option Value} (hl : OpRel (VRel F ρ) lo lo') (hh : OpRel (VRel F ρ) hi hi') (hm : OpRel (VRel F ρ) mx mx') :
   SE P F ρ (Instr.sliceBounds b len cap lo hi mx) (Instr.sliceBounds b len cap lo' hi' mx') := by
 unfold Instr.sliceBounds
 cases hm with
 | none =>
   cases hh with
   | none =>
     cases hl with
     | none => exact .pure rfl
     | some hl => exact (se_sliceBound hl _ _).eqs fun _ _ _ => .pure rfl
   | some hh =>
     cases hl with
     | none => exact (se_sliceBound hh _ _).eqs fun _ _ _ => .pure rfl
     | some hl => exact (se_sliceBound hh _ _).eqs fun ρ₁ h₁ _ => (se_sliceBound (hl.mono h₁) _ _).eqs fun _ _ _ => .pure rfl
 | some hm =>
   refine (se_sliceBound hm _ _).eqs fun ρ₁ h₁ m => ?_
   cases hh with
   | none => exact .dead trivial
   | some hh =>
     cases hl with
     | none => exact (se_sliceBound (hh.mono h₁) _ _).eqs fun _ _ _ => .pure rfl
     | some hl => exact (se_sliceBound (hh.mono h₁) _ _).eqs fun ρ₂ h₂ _ => (se_sliceBound ((hl.mono h₁).mono h₂) _ _).eqs fun _ _ _ => .pure rfl
def okSlice (P : Program) (t : TypeId) : Bool := match P.underlying t with | some .string | some (.slice _) | some (.array _ _) => true | _ => false
theorem sr_sliceAt {t : TypeId} (hok : okSlice P t = true) {x x' : Value} (hx : VRel F ρ x x') {lo lo' hi hi' mx mx' : Option Value} (hl : OpRel (VRel F ρ) lo lo') (hh : OpRel (VRel F ρ) hi hi') (hm : OpRel (VRel F ρ) mx mx') :
   SV P F ρ (Instr.sliceAt t x lo hi mx) (Instr.sliceAt t x' lo' hi' mx') := by
 unfold Instr.sliceAt
 refine sr_underlying fun d hd => ?_
 unfold okSlice at hok
 rw [hd] at hok
 have main : (∀ n e, d ≠ .array n e) -> SV P F ρ (Instr.slice t x lo hi mx) (Instr.slice t x' lo' hi' mx') := by
   intro hna
   unfold Instr.slice
   refine sr_underlying fun d' hd' => ?_
   rw [hd] at hd'
   cases hd'
   cases d <;> first | (simp at hok; done) | exact absurd rfl (hna _ _) | skip
   · cases hx <;> first | exact .dead trivial | skip
     dsimp only
     have e : mx.isSome = mx'.isSome := by cases hm <;> rfl
     rw [e]
     split
     · exact SRel.dead (h := .stuck _) trivial
     · exact (se_sliceBounds _ _ _ hl hh .none).eqs fun ρ₁ h₁ y => .pure (.string _)
   · cases hx <;> first | exact .dead trivial | skip
     rename_i a a' n m ha
     dsimp only
     refine (se_sliceBounds _ _ _ hl hh hm).eqs fun ρ₁ h₁ y => ?_
     obtain ⟨l, h, m⟩ := y
     dsimp only
     refine sr_sizeOf fun ti _ => .pure (.slice _ _ ?_)
     have ha' := ha.mono (fun _ _ => ARel.mono h₁)
     split
     · exact ha'
     · cases ha' with
       | none => exact .none
       | some k => exact .some (k.add _)
 have arr : ∀ n elem, d = .array n elem -> SV P F ρ (do
     let a <- Instr.sureAddr x
     let (l, h, m) <- Instr.sliceBounds false n n lo hi mx
     let size <- sizeOf elem
     pure (.slice (some (if m = l then a else a.add (l * size))) (h - l) (m - l))) (do
     let a <- Instr.sureAddr x'
     let (l, h, m) <- Instr.sliceBounds false n n lo' hi' mx'
     let size <- sizeOf elem
     pure (.slice (some (if m = l then a else a.add (l * size))) (h - l) (m - l))) := by
   intro n elem _
   refine sr_sureAddr hx fun a a' ha => ?_
   refine (se_sliceBounds _ _ _ hl hh hm).eqs fun ρ₁ h₁ y => ?_
   obtain ⟨l, h, m⟩ := y
   dsimp only
   refine sr_sizeOf fun ti _ => .pure (.slice _ _ (.some ?_))
   split
   · exact ha.mono h₁
   · exact (ha.mono h₁).add _
 cases d <;> first | (simp at hok; done) | exact main (by simp) | exact arr _ _ rfl
/-! ### the rest -/
theorem sr_extract {x x' : Value} (hx : VRel F ρ x x') (i : Nat) : SV P F ρ (Instr.extract x i) (Instr.extract x' i) := by
 unfold Instr.extract
 cases hx <;> first | exact .dead trivial | skip
 rename_i cs cs' n h
 dsimp only
 have := (⟨n, h⟩ : VsRel F ρ cs cs').get i
 generalize cs[i]? = u, cs'[i]? = v at this
 cases this with
 | none => exact .dead trivial
 | some k => exact .pure k
theorem sr_makeInterface (t : TypeId) {x x' : Value} (hx : VRel F ρ x x') : SV P F ρ (Instr.makeInterface t x) (Instr.makeInterface t x') := by
 unfold Instr.makeInterface
 refine sr_underlying fun d _ => ?_
 cases d <;> first | exact .dead trivial | exact .pure (.iface _ hx)
theorem sr_typeAssert {x x' : Value} (hx : VRel F ρ x x') (xt : TypeId) {t : TypeId} (hz : ZGr P t) (hi : (∃ ms, P.underlying t = some (.interface ms)) \/ farTs.contains t = false) : SV P F ρ (Instr.typeAssert x xt t true) (Instr.typeAssert x' xt t true) := by
 unfold Instr.typeAssert
 have holds : ∀ {ρ : Rn} {v v' : Value}, VRel F ρ v v' -> SV P F ρ (pure (if true = true then .tuple #[v, .bool true] else v)) (pure (if true = true then .tuple #[v', .bool true] else v')) := fun h => .pure (.tuples ((VsRel.empty.push h).push (.bool _)))
 have fails : ∀ (st dy : Option TypeId) (m : String), SV P F ρ (if true = true then do pure (.tuple #[<- zeroValue t, .bool false]) else runtimePanic (.typeAssertion st dy t m)) (if true = true then do pure (.tuple #[<- zeroValue t, .bool false]) else runtimePanic (.typeAssertion st dy t m)) := by
   intro st dy m
   exact sr_zero hz fun v hv => .pure (.tuples ((VsRel.empty.push (hv F ρ)).push (.bool _)))
 refine sr_underlying fun d hd => ?_
 by_cases hdi : ∃ ms, d = .interface ms
 · obtain ⟨ms, rfl⟩ := hdi
   cases hx <;> first
     | exact .dead trivial
     | exact fails _ _ _
     | skip
   case iface tt v v' hv =>
     dsimp only
     refine sr_typeInfo fun i _ => ?_
     cases Instr.missingMethod ms i.methods with
     | none => exact holds (.iface _ hv)
     | some m => exact fails _ _ _
   case far tt b o ht =>
     dsimp only
     refine sr_typeInfo fun i _ => ?_
     cases Instr.missingMethod ms i.methods with
     | none => exact holds (.far _ _ _ ht)
     | some m => exact fails _ _ _
 · have hno : farTs.contains t = false := by
     rcases hi with ⟨ms, hms⟩ | h
     · rw [hms] at hd
       exact absurd ⟨ms, (Option.some.inj hd).symm⟩ hdi
     · exact h
   cases d <;> first | exact absurd ⟨_, rfl⟩ hdi | skip
   all_goals (cases hx <;> first
     | exact .dead trivial
     | exact fails _ _ _
     | (dsimp only; split; · exact holds ‹_›
        · exact fails _ _ _
        done)
     | skip)
   all_goals
     rename_i tt b o ht
     dsimp only
     split
     · rename_i e
       exfalso
       first | (subst e; rw [hno] at ht; cases ht) | (rw [<- e] at hno; rw [hno] at ht; cases ht)
     · exact fails _ _ _
theorem se_panicnil : SE P F ρ Instr.panicnil Instr.panicnil := by
 unfold Instr.panicnil sys
 refine .env fun r => ?_
 cases r <;> first
   | exact .dead trivial
   | exact .program (.pure rfl)
theorem sr_panic {x x' : Value} (hx : VRel F ρ x x') : SV P F ρ (Instr.panic x) (Instr.panic x') := by
 unfold Instr.panic
 cases hx <;> first | exact .dead trivial | exact .panic (.iface _ ‹_›) | exact .panic (.far _ _ _ ‹_›) | skip
 refine se_panicnil.eqs fun ρ₁ h₁ n => ?_
 split
 · exact .panic .nilIface
 · exact sr_runtimePanic trivial
/-! ### append, len -/
theorem sr_zeroCells {z : Array Value} (h : VsRel F ρ z z) (n : Nat) : VsRel F ρ (Builtin.zeroCells z n) (Builtin.zeroCells z n) := by
 unfold Builtin.zeroCells
 refine vsRel_each fun v hv => ?_
 obtain ⟨i, _, rfl⟩ := Array.mem_map.1 hv
 exact vr_bang h _
theorem sr_firstCells {x x' : Value} (hx : VRel F ρ x x') (size n : Nat) : SRel P F (fun ρ v v' => VsRel F ρ v v') ρ (Builtin.firstCells size n x) (Builtin.firstCells size n x') := by
 unfold Builtin.firstCells
 cases hx <;> first | exact .dead trivial | skip
 · refine .pure (vsRel_gr fun v hv => ?_)
   obtain ⟨b, _, rfl⟩ := Array.mem_map.1 hv
   exact fun F ρ => .int _ _
 · cases ‹OpRel (ARel ρ) _ _› with
   | none => exact .pure .empty
   | some ha => exact sr_loadCells ha _
theorem sr_lenOf {x x' : Value} (hx : VRel F ρ x x') {f f' : Nat -> Sem β} (h : ∀ n, SRel P F B ρ (f n) (f' n)) : SRel P F B ρ (Builtin.lenOf x >>= f) (Builtin.lenOf x' >>= f') := by
 cases hx <;> first | exact h _ | exact .dead trivial
theorem se_holdsCells {a a' : Addr} (ha : ARel ρ a a') (n : Nat) : SE P F ρ (Builtin.holdsCells a n) (Builtin.holdsCells a' n) := by
 unfold Builtin.holdsCells
 refine (se_shape ha.block).eqs fun ρ₁ h₁ s => ?_
 cases s with
 | none => exact .pure rfl
 | some x => rw [ha.spot, ha.off]; exact .pure rfl
theorem se_mayShare (size sLen n : Nat) {b b' : Option Addr} (hb : OpRel (ARel ρ) b b') {x x' : Value} (hx : VRel F ρ x x') : SE P F ρ (Builtin.mayShare size sLen n b x) (Builtin.mayShare size sLen n b' x') := by
 unfold Builtin.mayShare
 have tail : ∀ {ρ : Rn} {b b' : Option Addr} {x x' : Value} (there : Bool), OpRel (ARel ρ) b b' -> VRel F ρ x x' -> SE P F ρ (do
     if !there then return true
     match x with
     | .slice (some c) _ _ => do pure (!(<- Builtin.holdsCells c (n * size)) || b.any (·.block == c.block))
     | _ => pure false) (do
     if !there then return true
     match x' with
     | .slice (some c) _ _ => do pure (!(<- Builtin.holdsCells c (n * size)) || b'.any (·.block == c.block))
     | _ => pure false) := by
   intro ρ b b' x x' there hb hx
   refine .use fun h1 => ?_
   cases there
   · exact .pure rfl
   · cases hx <;> try exact .pure rfl
     cases ‹OpRel (ARel ρ) _ _› with
     | none => exact .pure rfl
     | some hc =>
       refine (se_holdsCells hc _).eqs fun ρ₁ h₁ z => .pure ?_
       cases hb with
       | none => rfl
       | some ha => simp only [Option.any_some]; rw [beq_block h1 ha hc]
 cases hb with
 | none => exact tail true .none hx
 | some ha =>
   refine (se_holdsCells ha _).eqs fun ρ₁ h₁ y => ?_
   refine (se_frozen ((ha.mono h₁).add _)).eqs fun ρ₂ h₂ z => ?_
   exact tail _ (.some ((ha.mono h₁).mono h₂)) ((hx.mono h₁).mono h₂)
def zgB (P : Program) (t : TypeId) : Prop := ZGr P t
theorem sr_askRoom (n : Nat) : SE P F ρ (askRoom n) (askRoom n) := by
 unfold askRoom
 split
 · exact .mark (.inl rfl) (.pure rfl)
 · exact .pure rfl
def okAppend (P : Program) (ts : Array TypeId) : Prop :=
 (∀ s e, ts[0]? = some s -> P.underlying s = some (.slice e) -> ZGr P e) /\ ∀ x k, ts[1]? = some x -> P.underlying x ≠ some (.int k)
theorem sr_append {ts : Array TypeId} (hok : okAppend P ts) (t : TypeId) {as as' : Array Value} (ha : VsRel F ρ as as') : SV P F ρ (Builtin.append_ ts t as) (Builtin.append_ ts t as') := by
 unfold Builtin.append_
 have h0 := ha.get 0
 have h1 := ha.get 1
 generalize as[0]? = a0, as'[0]? = a0', as[1]? = a1, as'[1]? = a1' at h0 h1
 cases hs : ts[0]? with
 | none => exact .dead trivial
 | some sT =>
   cases h0 with
   | none => exact .dead trivial
   | some hs0 =>
     cases h1 with
     | none => exact .dead trivial
     | @some x x' hx =>
       dsimp only
       refine sr_underlying fun d hd => ?_
       cases d <;> first | exact .dead trivial | skip
       rename_i elem
       have hz := hok.1 sT elem hs hd
       cases hs0 <;> first | exact .dead trivial | skip
       rename_i base base' sLen sCap hb
       dsimp only
       refine sr_sizeOf fun ti hti => ?_
       have go : SV P F ρ (do
           let n <- Builtin.lenOf x
           let need := sLen + n
           if need <= sCap then
             let new <- Builtin.firstCells ti.size n x
             if let some a := base then storeCells (a.add (sLen * ti.size)) new.toList
             pure (.slice base need sCap)
           else
             if (need : Int) > IntKind.i64.max /\ (false \/ (<- typeInfo elem).bytes = 0) then runtimePanic (.error "growslice: len out of range")
             if Builtin.nextslicecap need sCap * (<- typeInfo elem).bytes > 2 ^ 48 then (if false then runtimePanic (.error "growslice: len out of range") else do
               if !(<- Builtin.mayShare ti.size sLen n base x) then mark .noRoom
               unsupported (.resourceLimit "append: a slice or a string whose bytes no memory bears"))
             let newCap <- choose (.appendCap need sCap elem)
             askRoom (newCap * (<- typeInfo elem).bytes)
             let old <- Builtin.firstCells ti.size sLen (.slice base sLen sCap)
             let new <- Builtin.firstCells ti.size n x
             let rest := Builtin.zeroCells (<- zeroValue elem).cells (newCap - need)
             pure (.slice (some (<- newRow elem (old ++ new ++ rest))) need newCap)) (do
           let n <- Builtin.lenOf x'
           let need := sLen + n
           if need <= sCap then
             let new <- Builtin.firstCells ti.size n x'
             if let some a := base' then storeCells (a.add (sLen * ti.size)) new.toList
             pure (.slice base' need sCap)
           else
             if (need : Int) > IntKind.i64.max /\ (false \/ (<- typeInfo elem).bytes = 0) then runtimePanic (.error "growslice: len out of range")
             if Builtin.nextslicecap need sCap * (<- typeInfo elem).bytes > 2 ^ 48 then (if false then runtimePanic (.error "growslice: len out of range") else do
               if !(<- Builtin.mayShare ti.size sLen n base' x') then mark .noRoom
               unsupported (.resourceLimit "append: a slice or a string whose bytes no memory bears"))
             let newCap <- choose (.appendCap need sCap elem)
             askRoom (newCap * (<- typeInfo elem).bytes)
             let old <- Builtin.firstCells ti.size sLen (.slice base' sLen sCap)
             let new <- Builtin.firstCells ti.size n x'
             let rest := Builtin.zeroCells (<- zeroValue elem).cells (newCap - need)
             pure (.slice (some (<- newRow elem (old ++ new ++ rest))) need newCap)) := by
         refine sr_lenOf hx fun n => ?_
         dsimp only
         split
         · refine (sr_firstCells hx _ _).bind fun ρ₁ h₁ c c' hc => ?_
           cases hb with
           | none => exact .pure (.slice _ _ .none)
           | some ha => exact (sr_storeArr ((ha.mono h₁).add _) hc 0).eqs fun ρ₂ h₂ _ => .pure (.slice _ _ (.some ((ha.mono h₁).mono h₂)))
         · refine sr_typeInfo fun i1 _ => ?_
           split
           · exact (sr_runtimePanic (A := fun _ _ _ => False) (e := .error "growslice: len out of range") trivial).bind fun _ _ _ _ h => h.elim
           · refine sr_typeInfo fun i2 _ => ?_
             split
             · simp only [Bool.false_eq_true, if_false]
               rw [bind_assoc, bind_assoc]
               refine (se_mayShare _ _ _ hb hx).eqs fun ρ₁ h₁ b => ?_
               cases b
               · exact .mark (.inl rfl) (.dead trivial)
               · exact .dead trivial
             · refine .choose fun k => ?_
               refine sr_typeInfo fun i3 _ => ?_
               refine (sr_askRoom _).eqs fun ρ₁ h₁ _ => ?_
               have hb1 : OpRel (ARel ρ₁) base base' := hb.mono fun _ _ => ARel.mono h₁
               refine (sr_firstCells (.slice _ _ hb1) _ _).bind fun ρ₂ h₂ c c' hc => ?_
               refine (sr_firstCells ((hx.mono h₁).mono h₂) _ _).bind fun ρ₃ h₃ u u' hu => ?_
               refine sr_zero hz fun z hz' => ?_
               refine sr_newRow (((hc.mono h₃).append hu).append (sr_zeroCells (hz' F ρ₃).cells _)) fun r r' => ?_
               exact .pure (.slice _ _ (.some (ar_new r r' 0)))
       cases hx1 : ts[1]? with
       | none => exact go
       | some xT =>
         refine sr_underlying fun dx hdx => ?_
         cases dx <;> first | exact go | exact absurd hdx (hok.2 xT _ hx1)
def okLen (P : Program) (ts : Array TypeId) : Bool := match ts[0]? with | some t => (match P.underlying t with | some .string | some (.slice _) => true | _ => false) | none => true
theorem sr_len {ts : Array TypeId} (hok : okLen P ts = true) (t : TypeId) {as as' : Array Value} (ha : VsRel F ρ as as') : SV P F ρ (Builtin.len_ ts t as) (Builtin.len_ ts t as') := by
 unfold Builtin.len_
 have h0 := ha.get 0
 generalize as[0]? = a0, as'[0]? = a0' at h0
 unfold okLen at hok
 cases hs : ts[0]? with
 | none => exact .dead trivial
 | some sT =>
   rw [hs] at hok
   cases h0 with
   | none => exact .dead trivial
   | some hx =>
     dsimp only
     refine sr_underlying fun d hd => ?_
     simp only [hd] at hok
     cases d <;> first | (simp at hok; done) | skip
     · cases hx <;> first | exact .dead trivial | exact .pure (.int _ _)
     · cases hx <;> first | exact .dead trivial | exact .pure (.int _ _)
/-! ### make of a slice, copy, unsafe.String -/
theorem sr_makeSlice {t : TypeId} (hz : ∀ e, P.underlying t = some (.slice e) -> ZGr P e) {x x' y y' : Value} (hx : VRel F ρ x x') (hy : VRel F ρ y y') : SV P F ρ (Instr.makeSlice t x y) (Instr.makeSlice t x' y') := by
 unfold Instr.makeSlice
 refine sr_underlying fun d hd => ?_
 cases d <;> first | exact .dead trivial | skip
 rename_i elem
 have hze := hz elem hd
 refine sr_asInt hx fun len => sr_asInt hy fun cap => sr_typeInfo fun ti hti => ?_
 dsimp only
 have tail : ∀ ρ : Rn, SV P F ρ (do
     askRoom ((IntKind.i64.wrap cap).toNat * ti.bytes)
     let n := (IntKind.i64.wrap cap).toNat * (<- sizeOf elem)
     let zero <- if n = 0 then pure #[] else do pure (<- zeroValue elem).cells
     let a <- newRow elem ((Array.range n).map (zero[· % zero.size]!))
     pure (.slice (some a) (IntKind.i64.wrap len).toNat (IntKind.i64.wrap cap).toNat)) (do
     askRoom ((IntKind.i64.wrap cap).toNat * ti.bytes)
     let n := (IntKind.i64.wrap cap).toNat * (<- sizeOf elem)
     let zero <- if n = 0 then pure #[] else do pure (<- zeroValue elem).cells
     let a <- newRow elem ((Array.range n).map (zero[· % zero.size]!))
     pure (.slice (some a) (IntKind.i64.wrap len).toNat (IntKind.i64.wrap cap).toNat)) := by
   intro ρ
   refine (sr_askRoom _).eqs fun ρ₁ h₁ _ => sr_sizeOf fun tj _ => ?_
   dsimp only
   have row : ∀ (z : Array Value), (∀ F ρ, VsRel F ρ z z) -> SV P F ρ₁ (do
       let a <- newRow elem ((Array.range ((IntKind.i64.wrap cap).toNat * tj.size)).map (z[· % z.size]!))
       pure (.slice (some a) (IntKind.i64.wrap len).toNat (IntKind.i64.wrap cap).toNat)) (do
       let a <- newRow elem ((Array.range ((IntKind.i64.wrap cap).toNat * tj.size)).map (z[· % z.size]!))
       pure (.slice (some a) (IntKind.i64.wrap len).toNat (IntKind.i64.wrap cap).toNat)) := by
     intro z hzz
     refine sr_newRow (vsRel_each fun v hv => ?_) fun r r' => .pure (.slice _ _ (.some (ar_new r r' 0)))
     obtain ⟨i, _, rfl⟩ := Array.mem_map.1 hv
     exact vr_bang (hzz F ρ₁) _
   by_cases h0 : (IntKind.i64.wrap cap).toNat * tj.size = 0
   · rw [if_pos h0]
     exact row #[] fun F ρ => .empty
   · rw [if_neg h0]
     exact sr_zero hze fun v hv => row v.cells fun F ρ => gr_cells hv F ρ
 repeat' first
   | exact tail _
   | split
 · refine SRel.bind (A := fun _ (_ _ : PUnit) => True) (sr_runtimePanic trivial) fun ρ₁ _ _ _ _ => ?_
   exact tail ρ₁
 · refine SRel.bind (A := fun _ (_ _ : PUnit) => True) (sr_runtimePanic trivial) fun ρ₁ _ _ _ _ => ?_
   exact tail ρ₁
 · refine SRel.eqs (SRel.choose fun z => .pure rfl) fun ρ₁ _ z => ?_
   refine SRel.bind (A := fun _ (_ _ : PUnit) => True) (sr_runtimePanic trivial) fun ρ₁ _ _ _ _ => ?_
   exact tail ρ₁
theorem sr_copy (ts : Array TypeId) (t : TypeId) {as as' : Array Value} (ha : VsRel F ρ as as') : SV P F ρ (Builtin.copy_ ts t as) (Builtin.copy_ ts t as') := by
 unfold Builtin.copy_
 have h0 := ha.get 0
 have h1 := ha.get 1
 generalize as[0]? = a0, as'[0]? = a0', as[1]? = a1, as'[1]? = a1' at h0 h1
 cases ts[0]? with
 | none => exact .dead trivial
 | some dT =>
   cases h0 with
   | none => exact .dead trivial
   | some hd =>
     cases h1 with
     | none => exact .dead trivial
     | some hs =>
       dsimp only
       refine sr_underlying fun d _ => ?_
       cases d <;> first | exact .dead trivial | skip
       cases hd <;> first | exact .dead trivial | skip
       rename_i n m hb
       dsimp only
       refine sr_lenOf hs fun k => sr_sizeOf fun ti _ => ?_
       refine (sr_firstCells hs _ _).bind fun ρ₁ h₁ c c' hc => ?_
       cases hb with
       | none => exact .pure (.int _ _)
       | some hb => exact (sr_storeArr (hb.mono h₁) hc 0).eqs fun _ _ _ => .pure (.int _ _)
theorem sr_loadBytes : ∀ (n : Nat) {ρ : Rn} {a a' : Addr} (acc : ByteArray), ARel ρ a a' -> SE P F ρ (loadBytes a acc n) (loadBytes a' acc n)
 | 0, _, _, _, _, _ => .pure rfl
 | n + 1, ρ, a, a', acc, ha => by
   unfold loadBytes
   refine .load ha fun v v' hv => ?_
   cases hv <;> first | exact .dead trivial | skip
   rename_i k z
   cases k <;> first | exact .dead trivial | exact sr_loadBytes n _ (ha.add 1)
theorem se_variablesAt {a a' : Addr} (ha : ARel ρ a a') (u : TypeId) (n : Nat) : SE P F ρ (variablesAt a u n) (variablesAt a' u n) := by
 unfold variablesAt
 refine sr_program ((se_shape ha.block).eqs fun ρ₁ h₁ s => ?_)
 cases s with
 | none => exact .pure rfl
 | some x => rw [ha.off]; exact .pure rfl
theorem sr_unsafeString (ts : Array TypeId) (t : TypeId) {as as' : Array Value} (ha : VsRel F ρ as as') : SV P F ρ (Builtin.unsafeString_ ts t as) (Builtin.unsafeString_ ts t as') := by
 unfold Builtin.unsafeString_
 obtain ⟨l⟩ := as
 obtain ⟨l'⟩ := as'
 have hsz : l.length = l'.length := ha.size
 rcases l with _ | ⟨x, _ | ⟨y, _ | ⟨z, l⟩⟩⟩
 · exact .dead trivial
 · cases x <;> exact .dead trivial
 · rcases l' with _ | ⟨x', _ | ⟨y', _ | ⟨z', l'⟩⟩⟩
   · simp at hsz
   · simp at hsz
   · have hx := ha.all 0 x x' rfl rfl
     have hy := ha.all 1 y y' rfl rfl
     cases hx <;> first | exact .dead trivial | skip
     rename_i pa pa' hp
     refine sr_asInt hy fun n => ?_
     cases ts[0]? with
     | none => exact .dead trivial
     | some pt =>
       dsimp only
       have tail : ∀ (ρ₁ : Rn), Ext ρ ρ₁ -> SV P F ρ₁ (match (generalizing := false) pa with
             | none =>
               if n = 0 then pure (Value.string ByteArray.empty)
               else runtimePanic (RuntimeError.error "unsafe.String: ptr is nil and len is not zero")
             | some a =>
               if n = 0 then pure (Value.string ByteArray.empty)
               else do
                 if <- variablesAt a (<- elemOf pt) n.toNat then do
                     let s <- loadBytes a ByteArray.empty n.toNat
                     freeze a n.toNat
                     pure (Value.string s)
                   else unsupported (Unsupported.unsafePointer "String: not so many bytes at ptr")) (match (generalizing := false) pa' with
             | none =>
               if n = 0 then pure (Value.string ByteArray.empty)
               else runtimePanic (RuntimeError.error "unsafe.String: ptr is nil and len is not zero")
             | some a =>
               if n = 0 then pure (Value.string ByteArray.empty)
               else do
                 if <- variablesAt a (<- elemOf pt) n.toNat then do
                     let s <- loadBytes a ByteArray.empty n.toNat
                     freeze a n.toNat
                     pure (Value.string s)
                   else unsupported (Unsupported.unsafePointer "String: not so many bytes at ptr")) := by
         intro ρ₁ h₁
         cases hp with
         | none =>
           dsimp only
           split
           · exact .pure (.string _)
           · exact sr_runtimePanic trivial
         | some hp =>
           dsimp only
           split
           · exact .pure (.string _)
           · refine sr_elemOf fun e => (se_variablesAt (hp.mono h₁) e _).eqs fun ρ₂ h₂ b => ?_
             cases b
             · exact .dead trivial
             · refine (sr_loadBytes _ _ ((hp.mono h₁).mono h₂)).eqs fun ρ₃ h₃ s => ?_
               exact .freeze (((hp.mono h₁).mono h₂).mono h₃) (.pure (.string _))
       split
       · exact SRel.bind (A := fun _ (_ _ : PUnit) => True) (sr_runtimePanic trivial) fun ρ₁ h₁ _ _ _ => (by
           split
           · exact SRel.bind (A := fun _ (_ _ : PUnit) => True) (.dead trivial) fun ρ₂ h₂ _ _ _ => tail ρ₂ (h₁.trans h₂)
           · exact tail ρ₁ h₁)
       · split
         · exact SRel.bind (A := fun _ (_ _ : PUnit) => True) (.dead trivial) fun ρ₂ h₂ _ _ _ => tail ρ₂ h₂
         · exact tail ρ (Ext.refl _)
   · simp at hsz
 · cases x <;> exact .dead trivial
end
end Go.Bsd
