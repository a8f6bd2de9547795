/-
  The parts: base Pip5 base Pip6 base Pip7
-/
import Derived.Test.YtonmcakdofbjiaaDoorV10
set_option linter.unusedVariables false
set_option linter.unusedSimpArgs false
set_option linter.unusedSectionVars false
set_option linter.unnecessarySimpa false
set_option maxRecDepth 100000
set_option maxHeartbeats 8000000
namespace Go.Bsd
open Go.Conc
open Go.ConcN (sumTo upd sumTo_upd upd_ne upd_same)
def Pins (o : Obj) (r : Option Obj) : Prop := ∀ (F : FuncId -> Prop) (ρ : Rn) (o' : Obj), ObRel F ρ o o' -> r = some o'
/-! ### the trace: whoever leaves -/
section
variable {n c : Nat} {Op Oc : Nat -> Prop} {t u : Trace} {pc : Nat}
theorem Duo.mute (h : Duo n c Op Oc t) {g : Nat} (h0 : g ≠ 0) (h1 : g ≠ n) (hu : ∀ op ∈ u, op.g = g) (hn : ∀ op ∈ u, op.act.touch? = none) : Duo n c Op Oc (t ++ u) :=
 ⟨fun said => noRace_still (h.clean said) hn,
  cls_app (K := DuoK n c Op Oc) (fun i a k => k.app (fun _ x => x) fun _ x => x) h.cls fun i op a _ _ hop ha _ => (by rw [hn op hop] at ha; cases ha),
  fun i g h1 h2 h3 h4 => over_app (p := fun g => g ≠ n) h.over (fun op hop => .inr (.inr (hn op hop))) i g h1 h2 h3 h4,
  (Deaf_other t h0 u hu).trans h.h0, (Deaf_other t h1 u hu).trans h.hn⟩
theorem DuoC.mute (h : DuoC n c Op Oc pc t) {g : Nat} (h0 : g ≠ 0) (hu : ∀ op ∈ u, op.g = g) (hn : ∀ op ∈ u, op.act.touch? = none) : DuoC n c Op Oc pc (t ++ u) := by
 have hpc : pc < t.size := lt_of_act? h.close.1
 refine ⟨fun said => noRace_still (h.clean said) hn,
  cls_app (K := DuoCK c Op pc) (fun i a k => k.app) h.cls fun i op a _ _ hop ha _ => (by rw [hn op hop] at ha; cases ha),
  ⟨(act?_old hpc).trans h.close.1, (heard_old hpc).2 h.close.2⟩, fun i g hg hne hc => ?_, (Deaf_other t h0 u hu).trans h.h0⟩
 obtain ⟨x, hx, hm⟩ := hc
 obtain ⟨op, hop, hox⟩ := touch_of hx
 rcases getElem?_append_cases hop with ⟨hi, hop'⟩ | ⟨_, hopu⟩
 · rcases h.over i g (by simpa [Trace.g?, getElem?_append_old hi] using hg) hne ((counts_old hi).1 ⟨x, hx, hm⟩) with ⟨j, hj, hb⟩ | hb
   · have hjl : j < t.size := by
       unfold Trace.g? at hj
       obtain ⟨z, hz, _⟩ := Option.map_eq_some_iff.1 hj
       exact lt_size_of_getElem? hz
     exact .inl ⟨j, by simpa [Trace.g?, getElem?_append_old hjl] using hj, hb_app u hb⟩
   · exact .inr (hb.app u)
 · rw [hn op hopu] at hox; cases hox
end
/-! ### the machine's steps -/
section
variable {P : Program} {gs : Array Goroutine} {w : World} {sl : Option (Nat × Nat)} {t : Trace}
def Reach (P : Program) (Fin : Array Goroutine -> World -> Option (Nat × Nat) -> Trace -> Prop) (gs : Array Goroutine) (w : World) (sl : Option (Nat × Nat)) (t : Trace) : Prop :=
 ∃ N gs' w' sl' t', runNT P N (crowd gs w sl) t = (.next (crowd gs' w' sl'), t') /\ Fin gs' w' sl' t'
variable {Fin : Array Goroutine -> World -> Option (Nat × Nat) -> Trace -> Prop}
theorem Reach.here (h : Fin gs w sl t) : Reach P Fin gs w sl t := ⟨0, gs, w, sl, t, rfl, h⟩
theorem Reach.step {gs₁ : Array Goroutine} {w₁ : World} {sl₁ : Option (Nat × Nat)} {ops : Array MemOp} (hs : stepT P (crowd gs w sl) = (.next (crowd gs₁ w₁ sl₁), ops)) (h : Reach P Fin gs₁ w₁ sl₁ (t ++ ops)) : Reach P Fin gs w sl t := by
 obtain ⟨N, gs', w', sl', t', hr, hf⟩ := h
 exact ⟨N + 1, gs', w', sl', t', by simp only [runNT, hs]; exact hr, hf⟩
def Calm (w : World) (gs : Array Goroutine) : Prop := ∀ (j : Nat) (x : Goroutine), gs[j]? = some x -> x.again w = x
theorem map_woken {g g' : Goroutine} (h : Calm w gs) : gs.map (woken P g g' w) = gs := by
 apply Array.ext_getElem?
 intro j
 rw [Array.getElem?_map]
 cases hx : gs[j]? with
 | none => rfl
 | some x =>
   simp only [Option.map_some, Option.some.injEq]
   unfold woken
   split
   · exact h j x hx
   · rfl
theorem leaver_step {m : Nat -> Nat} {i d : Nat} {g : Goroutine} (hi : gs[i]? = some g) (hr : g.status = .running) (h0 : i ≠ 0) (hq : QuitsD P (m i) d g) (hc : Calm w gs) :
   ∃ g' k ops, m i = k + 1 /\ runT P (crowd gs w sl) i = (.next (crowd (gs.setIfInBounds i g') w sl), ops) /\ (∀ op ∈ ops, op.g = i) /\ (∀ op ∈ ops, op.act.touch? = none) /\ (∀ t, Deaf t i = d -> QuitsD P k (Deaf (t ++ ops) i) g') := by
 cases hmi : m i with
 | zero => rw [hmi] at hq; rw [hq.1] at hr; cases hr
 | succ k =>
   rw [hmi] at hq
   rcases hq with ⟨hf, _⟩ | ⟨_, g', es, hm, hst, hq'⟩
   · rw [hf] at hr; cases hr
   · have hi0 : (i == 0) = false := by simp; omega
     have hrun := runT_crowd_go (P := P) (sl := sl) (i := i) hi (by rw [hi0]; exact hst w)
     rw [map_woken hc] at hrun
     refine ⟨g', k, _, rfl, hrun, fun op hop => ?_, fun op hop => ?_, fun t ht => ?_⟩
     · obtain ⟨e, _, rfl⟩ := Go.Conc.mem_ofEvents hop; rfl
     · obtain ⟨e, he, rfl⟩ := Go.Conc.mem_ofEvents hop; exact touch_mute (hm e he)
     · rw [Deaf_own, ht]; exact hq'
end
structure PhB (P : Program) (Fp Fc : FuncId -> Prop) (Gp Gc : Nat -> Prop) (f : FuncId) (n c cap K : Nat) (L : List Value) (closeD : Deferred) (child : Frame) (l0 : List Frame) (w0 : World) (Gb : Nat -> Prop)
   (p q : Nd) (gs : Array Goroutine) (w : World) (t : Trace) (m : Nat -> Nat) (rcvd : Nat) (bp bc buf : Array Value) : Prop where
 core : Core P Fp Fc Gp Gc f c cap K L closeD child l0 w0 Gb p q w L.length rcvd L.length rcvd bp bc buf true
 duo : ∃ Op pc, (∀ b, Op b -> (∃ x, p.ρ x b) /\ b ≠ c) /\ DuoC n c Op (fun b => (∃ x, q.ρ x b) /\ b ≠ c) pc t
 zero : ∃ o, gs[0]? = some { Go.Conc.G q.fr' q.l' with offers := o }
 others : ∀ (j : Nat) (x : Goroutine), j ≠ 0 -> gs[j]? = some x -> QuitsD P (m j) (Deaf t j) x
 above : ∀ j : Nat, gs.size <= j -> Deaf t j = 0
 vars : ∀ y : Nat, Gb y -> y ≠ c -> ∃ o, p.v.heap[y]? = some o /\ Pins o (w0.heap[y]?)
section
variable {P : Program} {Fp Fc : FuncId -> Prop} {Gp Gc : Nat -> Prop} {f : FuncId} {n c cap K : Nat} {L : List Value} {closeD : Deferred} {child : Frame} {l0 : List Frame} {w0 : World} {Gb : Nat -> Prop} {p q : Nd} {gs : Array Goroutine} {w : World} {sl : Option (Nat × Nat)} {t : Trace} {m : Nat -> Nat} {rcvd : Nat} {bp bc buf : Array Value}
 {Xc : Goroutine -> World -> Prop}
def AtRecv (P : Program) (f : FuncId) (c K : Nat) (g : Goroutine) (v : World) : Prop :=
 ∃ fr z ok, g = Go.Conc.G fr [bottom f c] /\ fr.mode = .run /\ (∀ T d, stepG P true g (re v T d) = .comm g #[rcase c z] true (.recv ok) (re v T d) #[]) /\ ∃ a b, v.heap[c]? = some (.chan K #[] false a b false)
theorem calm_B (h : PhB P Fp Fc Gp Gc f n c cap K L closeD child l0 w0 Gb p q gs w t m rcvd bp bc buf) (w' : World) : Calm w' gs := by
 intro j x hx
 by_cases hj : j = 0
 · subst hj
   obtain ⟨o, ho⟩ := h.zero
   rw [ho] at hx
   cases hx
   exact again_running w' (.inl rfl)
 · exact again_running w' (h.others j x hj hx).status
theorem set_get {gs : Array Goroutine} {i j : Nat} {x y : Goroutine} (h : (gs.setIfInBounds i x)[j]? = some y) : (j = i /\ y = x) \/ (j ≠ i /\ gs[j]? = some y) := by
 by_cases e : i = j
 · subst e
   by_cases hlt : i < gs.size
   · rw [Array.getElem?_setIfInBounds_self_of_lt hlt] at h
     exact .inl ⟨rfl, (Option.some.inj h).symm⟩
   · rw [Array.getElem?_eq_none (by simpa using hlt)] at h; cases h
 · rw [Array.getElem?_setIfInBounds_ne e] at h
   exact .inr ⟨fun k => e k.symm, h⟩
structure DoneP (P : Program) (Fp Fc : FuncId -> Prop) (Gp Gc : Nat -> Prop) (f : FuncId) (c cap K : Nat) (L : List Value) (closeD : Deferred) (child : Frame) (l0 : List Frame) (w0 : World) (Gb : Nat -> Prop) (Xc : Goroutine -> World -> Prop)
   (p q : Nd) (gs : Array Goroutine) (w : World) (t : Trace) (m : Nat -> Nat) (bp bc buf : Array Value) (ok : Bool) (z z' : Value) (B : Nat) : Prop where
 core : Core P Fp Fc Gp Gc f c cap K L closeD child l0 w0 Gb p q w L.length L.length L.length L.length bp bc buf true
 zero : gs[0]? = some (Go.Conc.G (q.fr'.finish (recvd ok z' false)) q.l')
 zrel : VRel Fc q.ρ z z'
 at_ : Xc (Go.Conc.G q.fr q.l) q.v /\ ∀ T d, stepG P true (Go.Conc.G q.fr q.l) (re q.v T d) = .comm (Go.Conc.G q.fr q.l) #[rcase c z] true (.recv ok) (re q.v T d) #[]
 others : ∀ (j : Nat) (x : Goroutine), j ≠ 0 -> gs[j]? = some x -> QuitsD P (m j) (Deaf t j) x
 above : ∀ j : Nat, gs.size <= j -> Deaf t j = 0
 past : Past (fun _ => False) B t
 vars : ∀ y : Nat, Gb y -> y ≠ c -> ∃ o, p.v.heap[y]? = some o /\ Pins o (w0.heap[y]?)
theorem others_own {m : Nat -> Nat} {u : Trace} {x0 : Goroutine} (h : ∀ (j : Nat) (x : Goroutine), j ≠ 0 -> gs[j]? = some x -> QuitsD P (m j) (Deaf t j) x) (hu : ∀ op ∈ u, op.g = 0) : ∀ (j : Nat) (x : Goroutine), j ≠ 0 -> (gs.setIfInBounds 0 x0)[j]? = some x -> QuitsD P (m j) (Deaf (t ++ u) j) x := by
 intro j x hj hx
 rcases set_get hx with ⟨e, _⟩ | ⟨_, hx⟩
 · exact absurd e hj
 · rw [Deaf_other t (g' := 0) (Ne.symm hj) u hu]
   exact h j x hj hx
theorem above_own {u : Trace} {i : Nat} {x0 : Goroutine} (hi : i < gs.size) (h : ∀ j : Nat, gs.size <= j -> Deaf t j = 0) (hu : ∀ op ∈ u, op.g = i) : ∀ j : Nat, (gs.setIfInBounds i x0).size <= j -> Deaf (t ++ u) j = 0 := by
 intro j hj
 have : gs.size <= j := by simpa using hj
 rw [Deaf_other t (g' := i) (by omega) u hu]
 exact h j this
theorem lt_of_get {i : Nat} {x : Goroutine} (h : gs[i]? = some x) : i < gs.size := (Array.getElem?_eq_some_iff.1 h).1
theorem take_len {rcvd : Nat} (hl : (buf.toList : List Value) = (L.drop rcvd).take (L.length - rcvd)) : buf.toList = L.drop rcvd := by
 rw [hl, List.take_of_length_le (by simp)]
theorem partners_B (h : PhB P Fp Fc Gp Gc f n c cap K L closeD child l0 w0 Gb p q gs w t m rcvd bp bc buf) (i : Nat) (r : Nat) (b : Bool) : partners (gs.setIfInBounds i ph) r b = [] := by
 refine partners_nil fun j x hx => offersAt_of_not_blocked ?_ r b
 rcases set_get hx with ⟨_, rfl⟩ | ⟨_, hx⟩
 · simp [ph]
 · by_cases hj : j = 0
   · subst hj
     obtain ⟨o, ho⟩ := h.zero
     rw [ho] at hx
     cases hx
     simp [Go.Conc.G]
   · rcases (h.others j x hj hx).status with e | e <;> rw [e] <;> simp
theorem recv_tail {L : List Value} {b : Array Value} {k : Nat} (h : b.toList = L.drop k) (hne : 0 < b.size) : (b.extract 1 b.size).toList = L.drop (k + 1) /\ k < L.length /\ L[k]? = some (b.getD 0 undef) := by
 obtain ⟨l⟩ := b
 simp only at h
 subst h
 have hk : k < L.length := by simp at hne; omega
 refine ⟨?_, hk, ?_⟩
 · simp only [List.extract_toArray, List.size_toArray, List.length_drop]
   rw [List.extract_eq_drop_take', List.take_of_length_le (by simp), List.drop_drop]
 · simp [hk]
theorem at_end_len {L : List Value} {k : Nat} (h : ([] : List Value) = L.drop k) (hk : k <= L.length) : k = L.length := by
 have := congrArg List.length h
 simp at this
 omega
theorem end_step {D : Bool -> Prop} {F : FuncId -> Prop} {G : Nat -> Prop} {tl tl' : List Deferred} {cs cs' : List Frame} {ρ : Rn} {fr fr' : Frame} {l l' : List Frame} {v : World} (hP : SimP P F G D) (h : Lk P F G D .normal .normal tl tl' cs cs' ρ fr l fr' l' v w) (hm : fr.mode = .run) {z : Value} {ok : Bool}
   (hx : stepG P true (Go.Conc.G fr l) (re v w.tape w.drawn) = .comm (Go.Conc.G fr l) #[rcase c z] true (.recv ok) (re v w.tape w.drawn) #[]) (b' : Bool) :
   ∃ (ρ₁ : Rn) (fr₁' : Frame) (l₁' : List Frame) (w₁ : World) (es' : Array Event) (cc' : CommCase), stepG P b' (Go.Conc.G fr' l') w = .comm (Go.Conc.G fr₁' l₁') #[cc'] true (.recv ok) w₁ es' /\ CRel F ρ₁ (rcase c z) cc' /\
     Moved P.globals.size F ρ (re v w.tape w.drawn) w ρ₁ (re v w.tape w.drawn) w₁ /\ SRl P F G D .normal .normal tl tl' cs cs' ρ₁ (fr :: l) (fr₁' :: l₁') /\ ∀ e ∈ es', EvR ρ₁ w e := by
 have hs := step_side (w := re v w.tape w.drawn) (b := true) (b' := b') hP h.glob (noRec_normal _) (noRec_normal _) h.st h.one (fun r r' hr => h.rel r r' hr) (tied_re h) (fun hne => absurd hm hne)
 generalize stepG P true (Go.Conc.G fr l) (re v w.tape w.drawn) = x at hs hx
 generalize hy : stepG P b' (Go.Conc.G fr' l') w = y at hs
 cases hs with
 | go => cases hx
 | @comm ρ₁ fr₁ fr₁' l₁ l₁' v₂ w₁ es es' c₀ c' s m hsr hc hsh he =>
   simp only [GStep.comm.injEq, Go.Conc.G, Goroutine.mk.injEq, and_true] at hx
   obtain ⟨⟨rfl, rfl⟩, rfl, -, rfl, rfl, rfl⟩ := hx
   generalize hcs : (#[rcase c z] : Array CommCase) = arr at hc
   cases hc with
   | one hc hd =>
     simp only [Array.mk.injEq, List.cons.injEq, and_true] at hcs
     subst hcs
     exact ⟨ρ₁, fr₁', l₁', w₁, es', _, rfl, hc, m, hsr, he⟩
 | ended => cases hx
theorem roundB (hPc : SimP P Fc Gc (fun b => b = false)) (hL : ∀ x ∈ L, PlainV x) (hS : TapeFree Xc) (hX : ∀ g v, Xc g v -> AtRecv P f c K g v) {Fin : Array Goroutine -> World -> Option (Nat × Nat) -> Trace -> Prop}
   (hFin : ∀ p q gs w sl t m bp bc buf ok z z' B, DoneP P Fp Fc Gp Gc f c cap K L closeD child l0 w0 Gb Xc p q gs w t m bp bc buf ok z z' B -> Fin gs w sl t)
   (h : PhB P Fp Fc Gp Gc f n c cap K L closeD child l0 w0 Gb p q gs w t m rcvd bp bc buf)
   (hnode : (∀ T d, Xc (Go.Conc.G q.fr q.l) (re q.v T d)) \/ (Goes1 [] [bottom f c] q.fr q.l /\ ∀ T d, ∃ g' v', step P (solo (Go.Conc.G q.fr q.l) (re q.v T d)) = .next (solo g' v') /\ g'.status = .running /\
     ∀ (p q : Nd) (gs : Array Goroutine) (w : World) (sl : Option (Nat × Nat)) (t : Trace) (m : Nat -> Nat) (rcvd : Nat) (bp bc buf : Array Value), g' = Go.Conc.G q.fr q.l -> v' = q.v -> PhB P Fp Fc Gp Gc f n c cap K L closeD child l0 w0 Gb p q gs w t m rcvd bp bc buf -> Reach P Fin gs w sl t))
   (hinner : ∀ (gs' : Array Goroutine) (t' : Trace) (m' : Nat -> Nat) (sl' : Option (Nat × Nat)) (d : Nat), PhB P Fp Fc Gp Gc f n c cap K L closeD child l0 w0 Gb p q gs' (w.at d) t' m' rcvd bp bc buf -> sumTo gs'.size m' < sumTo gs.size m -> Reach P Fin gs' (w.at d) sl' t') : Reach P Fin gs w sl t := by
 obtain ⟨o, h0⟩ := h.zero
 have haw : ∀ g ∈ gs, awake g := by
   intro g hg
   obtain ⟨i, hi, rfl⟩ := Array.mem_iff_getElem.1 hg
   rcases Nat.eq_zero_or_pos i with rfl | hpos
   · have e : gs[0] = { Go.Conc.G q.fr' q.l' with offers := o } := by
       have := Array.getElem?_eq_getElem hi
       rw [h0] at this
       exact (Option.some.inj this).symm
     rw [e]; exact awake_of (.inl rfl)
   · exact awake_of ((h.others i _ (by omega) (Array.getElem?_eq_getElem hi)).status.elim .inl fun x => .inr (.inr x))
 obtain ⟨i, g, d, sl', hi, hg, hst⟩ := crowd_pick (P := P) (w := w) (sl := sl) haw ⟨0, _, h0, rfl⟩
 have hd : PhB P Fp Fc Gp Gc f n c cap K L closeD child l0 w0 Gb p q gs (w.at d) t m rcvd bp bc buf := ⟨h.core.at d, h.duo, h.zero, h.others, h.above, h.vars⟩
 have hcore := hd.core
 have only : OnlyC q.ρ q.v c := hcore.onlyc
 obtain ⟨va, vb, hvc⟩ := hcore.vcc
 have hbl : buf.toList = L.drop rcvd := take_len hcore.tb
 by_cases hi0 : i = 0
 · subst hi0
   rw [h0] at hi
   obtain rfl := Option.some.inj hi
   rcases hnode with hend | ⟨hgo, hkid⟩
   · -- the closed receive
     obtain ⟨fr, z, ok, eG, hmode, hcomm, ca, cb, hch⟩ := hX _ _ (hend (w.at d).tape (w.at d).drawn)
     have eG' := eG
     simp only [Go.Conc.G, Goroutine.mk.injEq, and_true] at eG'
     obtain ⟨e1, e2⟩ := eG'
     have hx := hcomm (w.at d).tape (w.at d).drawn
     have hbc : bc = #[] := by
       have hch' : q.v.heap[c]? = some (.chan K #[] false ca cb false) := hch
       rw [hvc] at hch'
       simp only [Option.some.injEq, Obj.chan.injEq] at hch'
       exact hch'.2.1
     have hlen : rcvd = L.length := at_end_len (by rw [<- hcore.tc, hbc]) hcore.le
     subst hlen
     obtain ⟨ρ₁, fr₁', l₁', w₂, es', cc', hs1, hcc, mv, hsr, hev⟩ := end_step (c := c) (z := z) (ok := ok) hPc hcore.lkc (by rw [e1]; exact hmode) hx true
     have hbuf : buf = #[] := by
       apply Array.toList_inj.1
       rw [hbl]; simp
     subst hbuf
     have hc2 : w₂.heap[c]? = some (.chan cap #[] true L.length L.length false) := mv.chan' c _ hcore.wc rfl
     have hch2 : cc'.chan = .chan (some c) := by
       have := hcc.chan
       generalize cc'.chan = y at this
       cases this with
       | chan hh =>
         cases hh with
         | some hh =>
           have := (hcore.lkc.tape (w.at d).tape (w.at d).drawn (w.at d).tape (w.at d).drawn).moved mv hsr
           have := (this.one.inj _ _ _ _ (mv.ext _ _ hcore.sc) hh).1 rfl
           rw [<- this]
     have hsend : cc'.send = none := by
       have := hcc.send
       generalize cc'.send = y at this
       cases this
       rfl
     rw [comm_eta_r hch2 hsend] at hs1
     have hrun := crowd_recv_closed (P := P) (gs := gs) (w := w.at d) (sl := sl') (i := 0) h0 (show stepG P (0 == 0) _ (w.at d) = _ from hs1) hc2 (partners_B hd 0 c true)
     obtain ⟨Op, pc, hOp, hduo⟩ := hd.duo
     have hcore2 := hcore.c_moved (T := (w.at d).tape) (d := (w.at d).drawn) mv hsr
     obtain ⟨t1, t2, t3⟩ := touch_ev (g := 0) (fn := (Go.Conc.G q.fr' q.l').frame.fn) (pos := (Go.Conc.G q.fr' q.l').frame.place) (fun e he => hev e he) hcore.chan
     have hduo2 := DuoC.cons (Oc' := fun b => (∃ x, ρ₁ x b) /\ b ≠ c) hduo (fun b k1 k2 => by
       obtain ⟨x, hx⟩ := (hOp b k1).1
       obtain ⟨y, hy⟩ := k2.1
       exact k2.2 (hcore2.disj x y b hx hy)) (fun k => (hOp c k).2 rfl) t1 (fun op hop => t2 op hop) t3
     obtain ⟨B, hpast⟩ := hduo2.over0 (y := { g := 0, fn := (Go.Conc.G fr₁' l₁').frame.fn, pos := (Go.Conc.G fr₁' l₁').frame.place, act := .recvClosed c }) rfl rfl
     rw [Array.append_assoc] at hpast
     have hu : ∀ op ∈ MemOp.ofEvents 0 (Go.Conc.G q.fr' q.l').frame.fn (Go.Conc.G q.fr' q.l').frame.place es' ++ #[({ g := 0, fn := (Go.Conc.G fr₁' l₁').frame.fn, pos := (Go.Conc.G fr₁' l₁').frame.place, act := .recvClosed c } : MemOp)], op.g = 0 := by
       intro op hop
       rcases Array.mem_append.1 hop with k | k
       · exact t1 op k
       · simp only [List.mem_toArray, List.mem_singleton] at k
         rw [k]
     refine Reach.step (hst.trans hrun) (Reach.here (hFin p ⟨ρ₁, q.fr, q.l, fr₁', l₁', re q.v (w.at d).tape (w.at d).drawn⟩ _ _ _ _ m bp bc #[] ok z cc'.zero B ⟨hcore2, ?_, hcc.zero, ⟨hend _ _, fun T d => hcomm T d⟩, others_own hd.others hu, above_own (lt_of_get h0) hd.above hu, hpast, hd.vars⟩))
     rw [Array.getElem?_setIfInBounds_self_of_lt (lt_of_get h0), finishComm_recv]
     rfl
   · obtain ⟨g', v', hstep, hrun', hk⟩ := hkid (w.at d).tape (w.at d).drawn
     obtain ⟨Op, pc, hOp, hduo⟩ := hd.duo
     have hduoC : ∀ {ρ₁ : Rn} {es' : Array Event} {fn : FuncId} {pos : String}, (∀ e ∈ es', EvR ρ₁ (w.at d) e) -> (∀ x x' y, p.ρ x y -> ρ₁ x' y -> y = c) -> DuoC n c Op (fun b => (∃ x, ρ₁ x b) /\ b ≠ c) pc (t ++ MemOp.ofEvents 0 fn pos es') := by
       intro ρ₁ es' fn pos hev hdis
       obtain ⟨t1, t2, t3⟩ := touch_ev (g := 0) (fn := fn) (pos := pos) hev hcore.chan
       exact DuoC.cons hduo (fun b k1 k2 => by
         obtain ⟨x, hx⟩ := (hOp b k1).1
         obtain ⟨y, hy⟩ := k2.1
         exact k2.2 (hdis x y b hx hy)) (fun k => (hOp c k).2 rfl) t1 (fun op hop => t2 op hop) t3
     rcases node_step hPc (noRec_normal _) (noRec_normal _) hcore.lkc hgo hstep true with ⟨ρ₁, fr₁, l₁, fr₁', l₁', w₂, es', e1, e2, mv, hsr, hev⟩ | ⟨ρ₁, fr₁, l₁, fr₁', l₁', v₂, w₂, es, es', cc, cc', s, e1, e2, hcc, hD, hsh, mv, hsr, hev⟩
     · have hrun := runT_crowd_go (P := P) (gs := gs) (w := w.at d) (sl := sl') (i := 0) h0 (show stepG P (0 == 0) _ (w.at d) = _ from e1)
       rw [map_woken (calm_B hd w₂)] at hrun
       have hcore2 := hcore.c_moved (T := (w.at d).tape) (d := (w.at d).drawn) mv hsr
       have t1 : ∀ op ∈ MemOp.ofEvents 0 (Go.Conc.G q.fr' q.l').frame.fn (Go.Conc.G q.fr' q.l').frame.place es', op.g = 0 := fun op hop => by obtain ⟨e, _, rfl⟩ := Go.Conc.mem_ofEvents hop; rfl
       refine Reach.step (hst.trans hrun) (hk p ⟨ρ₁, fr₁, l₁, fr₁', l₁', v'⟩ _ _ _ _ m rcvd bp bc buf e2 rfl ⟨hcore2, ⟨Op, pc, hOp, hduoC hev hcore2.disj⟩, ⟨none, ?_⟩, others_own hd.others t1, above_own (lt_of_get h0) hd.above t1, hd.vars⟩)
       rw [Array.getElem?_setIfInBounds_self_of_lt (lt_of_get h0)]
       rfl
     · obtain ⟨q1, q2⟩ := chan_of hcc e2 hstep hrun' (onlyC_moved mv only)
       have hnone : cc.send = none := by
         cases hx : cc.send with
         | none => rfl
         | some x => rw [hx] at hD; cases hD
       have hnone' : cc'.send = none := by
         have := hcc.send
         rw [hnone] at this
         generalize cc'.send = y at this
         cases this
         rfl
       obtain ⟨ok, rfl⟩ : ∃ ok, s = .recv ok := by
         cases s with
         | recv ok => exact ⟨ok, rfl⟩
         | send => have := hsh cc (by simp); rw [hnone] at this; cases this
         | select => exact hsh.elim
       rw [comm_eta_r q1 hnone] at e2
       rw [comm_eta_r q2 hnone'] at e1
       have hvc2 : v₂.heap[c]? = some (.chan K bc false va vb false) := mv.chan c _ hvc rfl
       have hbb : buf = bc := Array.toList_inj.1 (hbl.trans hcore.tc.symm)
       subst hbb
       by_cases hne : 0 < buf.size
       · obtain ⟨rfl, rfl⟩ := lone_recv e2 hvc2 hne hstep
         obtain ⟨r1, r2, r3⟩ := recv_tail hbl hne
         have hplain := hL _ (List.mem_of_getElem? r3)
         generalize hval : buf.getD 0 undef = x at *
         have hc2 : w₂.heap[c]? = some (.chan cap buf true L.length rcvd false) := mv.chan' c _ hcore.wc rfl
         have hrun := crowd_recv_buf (P := P) (gs := gs) (w := w.at d) (sl := sl') (i := 0) h0 (show stepG P (0 == 0) _ (w.at d) = _ from e1) hc2 hne (partners_B hd 0 c true)
         rw [hval] at hrun
         have hcore2 := hcore.c_moved (T := (w.at d).tape) (d := (w.at d).drawn) mv hsr
         have hvx : ∀ F ρ, VRel F ρ (recvd ok x true) (recvd ok x true) := by
           intro F ρ
           unfold recvd
           split
           · exact .tuples ((VsRel.empty.push (hplain.gr F ρ)).push (.bool _))
           · exact hplain.gr F ρ
         have hcore3 := hcore2.turn hcore2.lkp.st (hsr.swap (fun _ _ h => h.finish (hvx _ _)) (kind_finish _ _) (kind_finish _ _)) (sent' := L.length) (rcvd' := rcvd + 1) (mp' := L.length) (mc' := rcvd + 1) (x := va) (y := vb + 1) (bp' := bp) (bc' := buf.extract 1 buf.size) (buf' := buf.extract 1 buf.size) (closed' := true)
           hcore2.tp r1 (by rw [r1, List.take_of_length_le (by simp)]) r2
         have hst2 : ∀ op ∈ (#[{ g := 0, fn := (Go.Conc.G fr₁' l₁').frame.fn, pos := (Go.Conc.G fr₁' l₁').frame.place, act := .recv c rcvd cap }, { g := 0, fn := (Go.Conc.G fr₁' l₁').frame.fn, pos := (Go.Conc.G fr₁' l₁').frame.place, act := .recvDone c rcvd }] : Array MemOp), op.g = 0 /\ Still op := by
           intro op hop
           simp only [List.mem_toArray, List.mem_cons, List.not_mem_nil, or_false] at hop
           rcases hop with rfl | rfl <;> exact ⟨rfl, by simp [Still, MemAct.touch?]⟩
         have t1 : ∀ op ∈ MemOp.ofEvents 0 (Go.Conc.G q.fr' q.l').frame.fn (Go.Conc.G q.fr' q.l').frame.place es' ++ #[({ g := 0, fn := (Go.Conc.G fr₁' l₁').frame.fn, pos := (Go.Conc.G fr₁' l₁').frame.place, act := .recv c rcvd cap } : MemOp), { g := 0, fn := (Go.Conc.G fr₁' l₁').frame.fn, pos := (Go.Conc.G fr₁' l₁').frame.place, act := .recvDone c rcvd }], op.g = 0 := by
           intro op hop
           rcases Array.mem_append.1 hop with k | k
           · obtain ⟨e, _, rfl⟩ := Go.Conc.mem_ofEvents k; rfl
           · exact (hst2 op k).1
         refine Reach.step (hst.trans hrun) (hk _ _ _ _ _ _ m (rcvd + 1) bp (buf.extract 1 buf.size) (buf.extract 1 buf.size) rfl rfl ⟨hcore3, ⟨Op, pc, hOp, ?_⟩, ⟨none, ?_⟩, others_own hd.others t1, above_own (lt_of_get h0) hd.above t1, fun y hy hyc => (hd.vars y hy hyc).imp fun o h => ⟨(put_ne (Ne.symm hyc)).trans h.1, h.2⟩⟩)
         · have := (hduoC (fn := (Go.Conc.G q.fr' q.l').frame.fn) (pos := (Go.Conc.G q.fr' q.l').frame.place) hev hcore2.disj).still fun op hop => (hst2 op hop).2
           rw [Array.append_assoc] at this
           exact this
         · rw [Array.getElem?_setIfInBounds_self_of_lt (lt_of_get h0), finishComm_recv]
           rfl
       · exfalso
         have hbe : buf = #[] := Array.eq_empty_of_size_eq_zero (by omega)
         subst hbe
         have := lone_recv_empty e2 hvc2 hstep
         rw [hrun'] at this
         cases this
 · obtain ⟨g', kk, ops, hmk, hrun, u1, u2, u3⟩ := leaver_step (P := P) (w := w.at d) (sl := sl') hi hg hi0 (hd.others i g hi0 hi) (calm_B hd _)
   obtain ⟨Op, pc, hOp, hduo⟩ := hd.duo
   have hlt := lt_of_get hi
   refine Reach.step (hst.trans hrun) (hinner _ _ (upd m i kk) sl' d ⟨hcore, ⟨Op, pc, hOp, hduo.mute hi0 u1 u2⟩, ⟨o, ?_⟩, fun j x hj hx => ?_, above_own hlt hd.above u1, hd.vars⟩ ?_)
   · rw [Array.getElem?_setIfInBounds_ne hi0]; exact h0
   · rcases set_get hx with ⟨rfl, rfl⟩ | ⟨hji, hx⟩
     · rw [upd_same]; exact u3 t rfl
     · rw [upd_ne m kk hji, Deaf_other t (g' := i) (Ne.symm hji) ops u1]
       exact hd.others j x hj hx
   · have e : sumTo gs.size (upd m i kk) + (kk + 1) = sumTo gs.size m + kk := by
       have := sumTo_upd m kk id hlt
       simpa [hmk] using this
     rw [Array.size_setIfInBounds]
     omega
theorem phaseB (hPc : SimP P Fc Gc (fun b => b = false)) (hL : ∀ x ∈ L, PlainV x) (hS : TapeFree Xc) (hX : ∀ g v, Xc g v -> AtRecv P f c K g v) {Fin : Array Goroutine -> World -> Option (Nat × Nat) -> Trace -> Prop}
   (hFin : ∀ p q gs w sl t m bp bc buf ok z z' B, DoneP P Fp Fc Gp Gc f c cap K L closeD child l0 w0 Gb Xc p q gs w t m bp bc buf ok z z' B -> Fin gs w sl t) :
   ∀ (g : Goroutine) (v : World), Must P Xc g v -> ∀ (M : Nat) (p q : Nd) (gs : Array Goroutine) (w : World) (sl : Option (Nat × Nat)) (t : Trace) (m : Nat -> Nat) (rcvd : Nat) (bp bc buf : Array Value), g = Go.Conc.G q.fr q.l -> v = q.v -> sumTo gs.size m <= M ->
     PhB P Fp Fc Gp Gc f n c cap K L closeD child l0 w0 Gb p q gs w t m rcvd bp bc buf -> Reach P Fin gs w sl t := by
 have hXr : ∀ g v, Xc g v -> g.callers ≠ [] := fun g v h => by obtain ⟨fr, z, ok, rfl, _⟩ := hX g v h; simp [Go.Conc.G]
 intro g v hM
 induction hM with
 | @stop g v hstop =>
   intro M
   induction M with
   | zero =>
     intro p q gs w sl t m rcvd bp bc buf eg ev hm h
     subst eg; subst ev
     exact roundB hPc hL hS hX hFin h (.inl hstop) fun gs' t' m' sl' d _ hlt => absurd hlt (by omega)
   | succ M ih =>
     intro p q gs w sl t m rcvd bp bc buf eg ev hm h
     subst eg; subst ev
     exact roundB hPc hL hS hX hFin h (.inl hstop) fun gs' t' m' sl' d h' hlt => ih p q gs' (w.at d) sl' t' m' rcvd bp bc buf rfl rfl (by omega) h'
 | @step g v hr ht g' v' h1 h2 h3 ihO =>
   have node : ∀ (q : Nd) (p : Nd) (gs : Array Goroutine) (w : World) (t : Trace) (m : Nat -> Nat) (rcvd : Nat) (bp bc buf : Array Value), g = Go.Conc.G q.fr q.l -> v = q.v -> PhB P Fp Fc Gp Gc f n c cap K L closeD child l0 w0 Gb p q gs w t m rcvd bp bc buf ->
       (∀ T d, Xc (Go.Conc.G q.fr q.l) (re q.v T d)) \/ (Goes1 [] [bottom f c] q.fr q.l /\ ∀ T d, ∃ g' v', step P (solo (Go.Conc.G q.fr q.l) (re q.v T d)) = .next (solo g' v') /\ g'.status = .running /\
         ∀ (p q : Nd) (gs : Array Goroutine) (w : World) (sl : Option (Nat × Nat)) (t : Trace) (m : Nat -> Nat) (rcvd : Nat) (bp bc buf : Array Value), g' = Go.Conc.G q.fr q.l -> v' = q.v -> PhB P Fp Fc Gp Gc f n c cap K L closeD child l0 w0 Gb p q gs w t m rcvd bp bc buf -> Reach P Fin gs w sl t) := by
     intro q p gs w t m rcvd bp bc buf eg ev h
     subst eg; subst ev
     obtain ⟨a, b, hvc⟩ := h.core.vcc
     rcases goes_or_end hPc h.core.lkc.st ⟨_, hvc, rfl⟩ hXr (.step hr ht g' v' h1 h2 h3) with hgo | hend
     · exact .inr ⟨hgo, fun T d => ⟨g' T d, v' T d, h2 T d, h1 T d, fun p q gs w sl t m rcvd bp bc buf e1 e2 h => ihO T d _ p q gs w sl t m rcvd bp bc buf e1 e2 (Nat.le_refl _) h⟩⟩
     · exact .inl hend
   intro M
   induction M with
   | zero =>
     intro p q gs w sl t m rcvd bp bc buf eg ev hm h
     exact roundB hPc hL hS hX hFin h (node q p gs w t m rcvd bp bc buf eg ev h) fun gs' t' m' sl' d _ hlt => absurd hlt (by omega)
   | succ M ih =>
     intro p q gs w sl t m rcvd bp bc buf eg ev hm h
     exact roundB hPc hL hS hX hFin h (node q p gs w t m rcvd bp bc buf eg ev h) fun gs' t' m' sl' d h' hlt => ih p q gs' (w.at d) sl' t' m' rcvd bp bc buf eg ev (by omega) h'
end
end Go.Bsd
namespace Go.Bsd
open Go.Conc
open Go.ConcN (sumTo upd sumTo_upd upd_ne upd_same)
def Pre (P : Program) : Nat -> Goroutine -> Goroutine -> Prop
 | 0, y, x => y = x
 | j + 1, y, x => y.status = .running /\ ∃ y', (∀ w, stepG P false y w = .go y' w #[]) /\ Pre P j y' x
theorem Pre.status {P : Program} : ∀ {j : Nat} {y x : Goroutine}, Pre P j y x -> x.status = .running -> y.status = .running
 | 0, _, _, h, hx => by rw [show _ = _ from h]; exact hx
 | _ + 1, _, _, h, _ => h.1
structure PhA (P : Program) (Fp Fc : FuncId -> Prop) (Gp Gc : Nat -> Prop) (f : FuncId) (n c cap K : Nat) (L : List Value) (closeD : Deferred) (child : Frame) (l0 : List Frame) (w0 : World) (Gb : Nat -> Prop)
   (p q : Nd) (gs : Array Goroutine) (w : World) (t : Trace) (m : Nat -> Nat) (sent rcvd mp mc : Nat) (bp bc buf : Array Value) (pb cb : Nat) : Prop where
 core : Core P Fp Fc Gp Gc f c cap K L closeD child l0 w0 Gb p q w sent rcvd mp mc bp bc buf false
 duo : Duo n c (fun b => (∃ x, p.ρ x b) /\ b ≠ c) (fun b => (∃ x, q.ρ x b) /\ b ≠ c) t
 n0 : n ≠ 0
 cap0 : 0 < cap
 sentL : sent <= L.length
 ps : (∃ y j, gs[n]? = some y /\ Pre P j y (Go.Conc.G p.fr' p.l') /\ mp = sent /\ pb = 1 + j) \/ ∃ x z a', gs[n]? = some (parked (Go.Conc.G a' p.l') #[scase c x z] .send) /\ p.fr' = a'.finish undef /\ mp = sent + 1 /\ L[sent]? = some x /\ cap <= buf.size /\ pb = 0
 cst : (gs[0]? = some (Go.Conc.G q.fr' q.l') /\ mc = rcvd /\ cb = 1) \/ (∃ x z ok b', gs[0]? = some (parked (Go.Conc.G b' q.l') #[rcase c z] (.recv ok)) /\ q.fr' = b'.finish (recvd ok x true) /\ mc = rcvd + 1 /\ L[rcvd]? = some x /\ buf = #[] /\ cb = 0) \/
   ∃ z ok, gs[0]? = some (parked (Go.Conc.G q.fr' q.l') #[rcase c z] (.recv ok)) /\ mc = rcvd /\ rcvd = L.length /\ cb = 0
 others : ∀ (j : Nat) (x : Goroutine), j ≠ 0 -> j ≠ n -> gs[j]? = some x -> QuitsD P (m j) (Deaf t j) x
 above : ∀ j : Nat, gs.size <= j -> Deaf t j = 0
section
variable {P : Program} {Fp Fc : FuncId -> Prop} {Gp Gc : Nat -> Prop} {f : FuncId} {n c cap K : Nat} {L : List Value} {closeD : Deferred} {child : Frame} {l0 : List Frame} {w0 : World} {Gb : Nat -> Prop} {p q : Nd} {gs : Array Goroutine} {w : World} {sl : Option (Nat × Nat)} {t : Trace} {m : Nat -> Nat} {sent rcvd mp mc pb cb : Nat} {bp bc buf : Array Value}
theorem Core.c_tape {closed : Bool} {ρ : Rn} {fr fr' : Frame} {l l' : List Frame} {v : World} {T : Nat -> Question -> Nat} {d : Nat} (h : Core P Fp Fc Gp Gc f c cap K L closeD child l0 w0 Gb p ⟨ρ, fr, l, fr', l', re v T d⟩ w sent rcvd mp mc bp bc buf closed) : Core P Fp Fc Gp Gc f c cap K L closeD child l0 w0 Gb p ⟨ρ, fr, l, fr', l', v⟩ w sent rcvd mp mc bp bc buf closed :=
 ⟨h.lkp, ⟨h.lkc.st, h.lkc.one, h.lkc.rel, h.lkc.os, h.lkc.sz, h.lkc.sz', h.lkc.glob⟩, h.vpc, h.vcc, h.tp, h.tc, h.wc, h.tb, h.le, h.room, h.sp, h.sc, h.disj, h.oldp, h.oldc, h.keep, h.grow, h.os, h.out, h.onlyp, h.onlyc, h.idp⟩
theorem calm_A (h : PhA P Fp Fc Gp Gc f n c cap K L closeD child l0 w0 Gb p q gs w t m sent rcvd mp mc bp bc buf pb cb) {w' : World} {b : Array Value} {s r : Nat} (hc : w'.heap[c]? = some (.chan cap b false s r false)) : Calm w' gs := by
 intro j x hx
 by_cases hj : j = 0
 · subst hj
   rcases h.cst with ⟨e, _⟩ | ⟨v, z, ok, b', e, _⟩ | ⟨z, ok, e, _⟩
   · rw [e] at hx; cases hx; exact again_running w' (.inl rfl)
   · rw [e] at hx; cases hx; exact again_recv_open hc
   · rw [e] at hx; cases hx; exact again_recv_open hc
 · by_cases hjn : j = n
   · subst hjn
     rcases h.ps with ⟨y, j, e, hy, _⟩ | ⟨v, z, a', e, _⟩
     · rw [e] at hx; cases hx; exact again_running w' (.inl (hy.status rfl))
     · rw [e] at hx; cases hx; exact again_send_open hc
   · exact again_running w' (h.others j x hj hjn hx).status
theorem awake_A (h : PhA P Fp Fc Gp Gc f n c cap K L closeD child l0 w0 Gb p q gs w t m sent rcvd mp mc bp bc buf pb cb) : ∀ g ∈ gs, awake g := by
 intro g hg
 obtain ⟨j, hj, rfl⟩ := Array.mem_iff_getElem.1 hg
 have hx := Array.getElem?_eq_getElem hj
 generalize gs[j] = x at hx
 by_cases hj0 : j = 0
 · subst hj0
   rcases h.cst with ⟨e, _⟩ | ⟨v, z, ok, b', e, _⟩ | ⟨z, ok, e, _⟩ <;> (rw [e] at hx; cases hx; intro t; simp [parked, Go.Conc.G])
 · by_cases hjn : j = n
   · subst hjn
     rcases h.ps with ⟨y, j, e, hy, _⟩ | ⟨v, z, a', e, _⟩
     · rw [e] at hx; cases hx; exact awake_of (.inl (hy.status rfl))
     · rw [e] at hx; cases hx; intro t; simp [parked, Go.Conc.G]
   · exact awake_of ((h.others j x hj0 hjn hx).status.elim .inl fun x => .inr (.inr x))
theorem quiet_A (h : PhA P Fp Fc Gp Gc f n c cap K L closeD child l0 w0 Gb p q gs w t m sent rcvd mp mc bp bc buf pb cb) {j : Nat} {x : Goroutine} (hj : j ≠ 0) (hjn : j ≠ n) (hx : gs[j]? = some x) (r : Nat) (b : Bool) : offersAt x r b = [] :=
 offersAt_of_not_blocked (by rcases (h.others j x hj hjn hx).status with e | e <;> rw [e] <;> simp) r b
theorem partners_c_none (h : PhA P Fp Fc Gp Gc f n c cap K L closeD child l0 w0 Gb p q gs w t m sent rcvd mp mc bp bc buf pb cb) {y : Goroutine} {j : Nat} (hr : gs[n]? = some y) (hy : Pre P j y (Go.Conc.G p.fr' p.l')) (b : Bool) : partners (gs.setIfInBounds 0 ph) c b = [] := by
 refine partners_nil fun j x hx => ?_
 rcases set_get hx with ⟨_, rfl⟩ | ⟨hj, hx⟩
 · exact offersAt_ph c b
 · by_cases hjn : j = n
   · subst hjn
     rw [hr] at hx; cases hx
     exact offersAt_of_not_blocked (by rw [hy.status rfl]; simp) c b
   · exact quiet_A h hj hjn hx c b
theorem partners_c_one (h : PhA P Fp Fc Gp Gc f n c cap K L closeD child l0 w0 Gb p q gs w t m sent rcvd mp mc bp bc buf pb cb) {g : Goroutine} {x z : Value} {sh : CommShape} (hr : gs[n]? = some (parked g #[scase c x z] sh)) : partners (gs.setIfInBounds 0 ph) c true = [(n, 0)] := by
 have e := partners_one (gs := gs.setIfInBounds 0 ph) (r := c) (send := true) (j := n) (g := parked g #[scase c x z] sh) (by rw [Array.getElem?_setIfInBounds_ne (Ne.symm h.n0)]; exact hr) (fun k y hk hy => by
   rcases set_get hy with ⟨_, rfl⟩ | ⟨hj, hy⟩
   · exact offersAt_ph c true
   · exact quiet_A h hj hk hy c true)
 rw [e, offersAt_parked_send, if_pos rfl]
 rfl
theorem partners_p_none (h : PhA P Fp Fc Gp Gc f n c cap K L closeD child l0 w0 Gb p q gs w t m sent rcvd mp mc bp bc buf pb cb) (hr : gs[0]? = some (Go.Conc.G q.fr' q.l')) (b : Bool) : partners (gs.setIfInBounds n ph) c b = [] := by
 refine partners_nil fun j x hx => ?_
 rcases set_get hx with ⟨_, rfl⟩ | ⟨hjn, hx⟩
 · exact offersAt_ph c b
 · by_cases hj : j = 0
   · subst hj
     rw [hr] at hx; cases hx
     exact offersAt_of_not_blocked (by simp [Go.Conc.G]) c b
   · exact quiet_A h hj hjn hx c b
theorem partners_p_one (h : PhA P Fp Fc Gp Gc f n c cap K L closeD child l0 w0 Gb p q gs w t m sent rcvd mp mc bp bc buf pb cb) {g : Goroutine} {z : Value} {sh : CommShape} (hr : gs[0]? = some (parked g #[rcase c z] sh)) : partners (gs.setIfInBounds n ph) c false = [(0, 0)] := by
 have e := partners_one (gs := gs.setIfInBounds n ph) (r := c) (send := false) (j := 0) (g := parked g #[rcase c z] sh) (by rw [Array.getElem?_setIfInBounds_ne h.n0]; exact hr) (fun k y hk hy => by
   rcases set_get hy with ⟨_, rfl⟩ | ⟨hj, hy⟩
   · exact offersAt_ph c false
   · exact quiet_A h hk hj hy c false)
 rw [e, offersAt_parked_recv, if_pos rfl]
 rfl
theorem othersA_own {g0 g1 : Goroutine} {u : Trace} (h : ∀ (j : Nat) (x : Goroutine), j ≠ 0 -> j ≠ n -> gs[j]? = some x -> QuitsD P (m j) (Deaf t j) x) (hu : ∀ op ∈ u, op.g = 0 \/ op.g = n) {i k : Nat} (hi : i = 0 \/ i = n) (hk : k = 0 \/ k = n) : ∀ (j : Nat) (x : Goroutine), j ≠ 0 -> j ≠ n -> ((gs.setIfInBounds i g0).setIfInBounds k g1)[j]? = some x -> QuitsD P (m j) (Deaf (t ++ u) j) x := by
 intro j x hj hjn hx
 have e : Deaf (t ++ u) j = Deaf t j := by
   have : ∀ (l : List MemOp) (d : Nat), (∀ op ∈ l, op.g ≠ j) -> l.foldl (deafStep j) d = d := by
     intro l
     induction l with
     | nil => intros; rfl
     | cons y l ih =>
       intro d hl
       have h1 := hl y (List.mem_cons_self ..)
       rw [List.foldl_cons]
       have e1 : deafStep j d y = d := by
         unfold deafStep
         split <;> first | rw [if_neg h1] | rfl
       rw [e1]
       exact ih d fun op hop => hl op (List.mem_cons_of_mem _ hop)
   have e2 : t ++ u = t ++ u.toList.toArray := by simp
   rw [e2, Deaf_append]
   exact this _ _ fun op hop => by
     rcases hu op (Array.mem_toList_iff.1 hop) with k | k <;> rw [k]
     · exact Ne.symm hj
     · exact Ne.symm hjn
 rw [e]
 have hne : ∀ {i : Nat}, (i = 0 \/ i = n) -> i ≠ j := by
   rintro i (rfl | rfl)
   · exact Ne.symm hj
   · exact Ne.symm hjn
 rw [Array.getElem?_setIfInBounds_ne (hne hk), Array.getElem?_setIfInBounds_ne (hne hi)] at hx
 exact h j x hj hjn hx
theorem aboveA_own {g0 g1 : Goroutine} {u : Trace} (h0 : 0 < gs.size) (hn : n < gs.size) (h : ∀ j : Nat, gs.size <= j -> Deaf t j = 0) (hu : ∀ op ∈ u, op.g = 0 \/ op.g = n) {i k : Nat} : ∀ j : Nat, ((gs.setIfInBounds i g0).setIfInBounds k g1).size <= j -> Deaf (t ++ u) j = 0 := by
 intro j hj
 have hj' : gs.size <= j := by simpa using hj
 have : ∀ (l : List MemOp) (d : Nat), (∀ op ∈ l, op.g ≠ j) -> l.foldl (deafStep j) d = d := by
   intro l
   induction l with
   | nil => intros; rfl
   | cons y l ih =>
     intro d hl
     have h1 := hl y (List.mem_cons_self ..)
     rw [List.foldl_cons]
     have e1 : deafStep j d y = d := by
       unfold deafStep
       split <;> first | rw [if_neg h1] | rfl
     rw [e1]
     exact ih d fun op hop => hl op (List.mem_cons_of_mem _ hop)
 have e2 : t ++ u = t ++ u.toList.toArray := by simp
 rw [e2, Deaf_append, this _ _ fun op hop => by
   rcases hu op (Array.mem_toList_iff.1 hop) with k | k <;> rw [k] <;> omega]
 exact h j hj'
variable {Xc Xp : Goroutine -> World -> Prop} {Fin : Array Goroutine -> World -> Option (Nat × Nat) -> Trace -> Prop}
theorem others1 {g0 : Goroutine} {u : Trace} (h : ∀ (j : Nat) (x : Goroutine), j ≠ 0 -> j ≠ n -> gs[j]? = some x -> QuitsD P (m j) (Deaf t j) x) (hu : ∀ op ∈ u, op.g = 0 \/ op.g = n) {i : Nat} (hi : i = 0 \/ i = n) : ∀ (j : Nat) (x : Goroutine), j ≠ 0 -> j ≠ n -> (gs.setIfInBounds i g0)[j]? = some x -> QuitsD P (m j) (Deaf (t ++ u) j) x := by
 have := othersA_own (g0 := g0) (g1 := g0) h hu hi hi
 simpa using this
theorem above1 {g0 : Goroutine} {u : Trace} (h0 : 0 < gs.size) (hn : n < gs.size) (h : ∀ j : Nat, gs.size <= j -> Deaf t j = 0) (hu : ∀ op ∈ u, op.g = 0 \/ op.g = n) {i : Nat} : ∀ j : Nat, (gs.setIfInBounds i g0).size <= j -> Deaf (t ++ u) j = 0 := by
 have := aboveA_own (g0 := g0) (g1 := g0) (i := i) (k := i) h0 hn h hu
 simpa using this
theorem PhA.n_lt (h : PhA P Fp Fc Gp Gc f n c cap K L closeD child l0 w0 Gb p q gs w t m sent rcvd mp mc bp bc buf pb cb) : n < gs.size := by
 rcases h.ps with ⟨y, j, e, _⟩ | ⟨v, z, a', e, _⟩ <;> exact lt_of_get e
theorem PhA.z_lt (h : PhA P Fp Fc Gp Gc f n c cap K L closeD child l0 w0 Gb p q gs w t m sent rcvd mp mc bp bc buf pb cb) : 0 < gs.size := by
 rcases h.cst with ⟨e, _⟩ | ⟨v, z, ok, b', e, _⟩ | ⟨z, ok, e, _⟩ <;> exact lt_of_get e
section
variable (P Fp Fc Gp Gc f n c cap K L closeD child l0 w0 Gb Xc Fin)
def NextP (g' : Goroutine) (v' : World) : Prop := ∀ (p q : Nd) (gs : Array Goroutine) (w : World) (sl : Option (Nat × Nat)) (t : Trace) (m : Nat -> Nat) (sent rcvd mp mc : Nat) (bp bc buf : Array Value) (pb cb : Nat), g' = Go.Conc.G p.fr p.l -> v' = p.v -> Must P Xc (Go.Conc.G q.fr q.l) q.v ->
 PhA P Fp Fc Gp Gc f n c cap K L closeD child l0 w0 Gb p q gs w t m sent rcvd mp mc bp bc buf pb cb -> Reach P Fin gs w sl t
def NextC (p0 : Nd) (g' : Goroutine) (v' : World) : Prop := ∀ (p q : Nd) (gs : Array Goroutine) (w : World) (sl : Option (Nat × Nat)) (t : Trace) (m : Nat -> Nat) (sent rcvd mp mc : Nat) (bp bc buf : Array Value) (pb cb : Nat), p.fr = p0.fr -> p.l = p0.l -> p.v = p0.v -> g' = Go.Conc.G q.fr q.l -> v' = q.v ->
 PhA P Fp Fc Gp Gc f n c cap K L closeD child l0 w0 Gb p q gs w t m sent rcvd mp mc bp bc buf pb cb -> Reach P Fin gs w sl t
def Inner (p0 q0 : Nd) (μ : Nat) : Prop := ∀ (p q : Nd) (gs : Array Goroutine) (w : World) (sl : Option (Nat × Nat)) (t : Trace) (m : Nat -> Nat) (sent rcvd mp mc : Nat) (bp bc buf : Array Value) (pb cb : Nat), p.fr = p0.fr -> p.l = p0.l -> p.v = p0.v -> q.fr = q0.fr -> q.l = q0.l -> q.v = q0.v ->
 PhA P Fp Fc Gp Gc f n c cap K L closeD child l0 w0 Gb p q gs w t m sent rcvd mp mc bp bc buf pb cb -> pb + cb + sumTo gs.size m < μ -> Reach P Fin gs w sl t
end
theorem own_ops {g : Nat} {fn : FuncId} {pos : String} {es : Array Event} : ∀ op ∈ MemOp.ofEvents g fn pos es, op.g = g := fun op hop => by obtain ⟨e, _, rfl⟩ := Go.Conc.mem_ofEvents hop; rfl
theorem plain_recvd {x : Value} (h : PlainV x) (ok : Bool) (F : FuncId -> Prop) (ρ : Rn) : VRel F ρ (recvd ok x true) (recvd ok x true) := by
 unfold recvd
 split
 · exact .tuples ((VsRel.empty.push (h.gr F ρ)).push (.bool _))
 · exact h.gr F ρ
theorem duo_c (h : PhA P Fp Fc Gp Gc f n c cap K L closeD child l0 w0 Gb p q gs w t m sent rcvd mp mc bp bc buf pb cb) {ρ₁ : Rn} {es' : Array Event} {fn : FuncId} {pos : String} (he : Ext q.ρ ρ₁) (hev : ∀ e ∈ es', EvR ρ₁ w e) (hd : ∀ x x' y, p.ρ x y -> ρ₁ x' y -> y = c) :
   Duo n c (fun b => (∃ x, p.ρ x b) /\ b ≠ c) (fun b => (∃ x, ρ₁ x b) /\ b ≠ c) (t ++ MemOp.ofEvents 0 fn pos es') := by
 obtain ⟨t1, t2, t3⟩ := touch_ev (g := 0) (fn := fn) (pos := pos) hev h.core.chan
 exact h.duo.cons (fun b k => ⟨let ⟨x, hx⟩ := k.1; ⟨x, he _ _ hx⟩, k.2⟩) (fun b k1 k2 => by
   obtain ⟨x, hx⟩ := k1.1
   obtain ⟨y, hy⟩ := k2.1
   exact k2.2 (hd x y b hx hy)) (fun k => k.2 rfl) h.n0 t1 t2 t3
theorem duo_p (h : PhA P Fp Fc Gp Gc f n c cap K L closeD child l0 w0 Gb p q gs w t m sent rcvd mp mc bp bc buf pb cb) {ρ₁ : Rn} {es' : Array Event} {fn : FuncId} {pos : String} (he : Ext p.ρ ρ₁) (hev : ∀ e ∈ es', EvR ρ₁ w e) (hd : ∀ x x' y, ρ₁ x y -> q.ρ x' y -> y = c) :
   Duo n c (fun b => (∃ x, ρ₁ x b) /\ b ≠ c) (fun b => (∃ x, q.ρ x b) /\ b ≠ c) (t ++ MemOp.ofEvents n fn pos es') := by
 obtain ⟨t1, t2, t3⟩ := touch_ev (g := n) (fn := fn) (pos := pos) hev h.core.chan
 exact h.duo.prod (fun b k => ⟨let ⟨x, hx⟩ := k.1; ⟨x, he _ _ hx⟩, k.2⟩) (fun b k1 k2 => by
   obtain ⟨x, hx⟩ := k1.1
   obtain ⟨y, hy⟩ := k2.1
   exact k2.2 (hd x y b hx hy)) (fun k => k.2 rfl) t1 t2 t3
theorem still2 {t u v : Trace} {n c : Nat} {Op Oc : Nat -> Prop} (h : Duo n c Op Oc (t ++ u)) (hv : ∀ op ∈ v, Still op) : Duo n c Op Oc (t ++ (u ++ v)) := by
 rw [<- Array.append_assoc]
 exact h.still hv
theorem set_at {g : Goroutine} {i : Nat} (h : i < gs.size) : (gs.setIfInBounds i g)[i]? = some g := Array.getElem?_setIfInBounds_self_of_lt h
theorem set_off {g : Goroutine} {i j : Nat} (h : i ≠ j) : (gs.setIfInBounds i g)[j]? = gs[j]? := Array.getElem?_setIfInBounds_ne h
end
end Go.Bsd
namespace Go.Bsd
open Go.Conc
open Go.ConcN (sumTo upd sumTo_upd upd_ne upd_same)
section
variable {P : Program} {Fp Fc : FuncId -> Prop} {Gp Gc : Nat -> Prop} {f : FuncId} {n c cap K : Nat} {L : List Value} {closeD : Deferred} {child : Frame} {l0 : List Frame} {w0 : World} {Gb : Nat -> Prop} {p q : Nd} {gs : Array Goroutine} {w : World} {sl : Option (Nat × Nat)} {t : Trace} {m : Nat -> Nat} {sent rcvd mp mc pb cb : Nat} {bp bc buf : Array Value}
 {Xc Xp : Goroutine -> World -> Prop} {Fin : Array Goroutine -> World -> Option (Nat × Nat) -> Trace -> Prop}
theorem buf_nil {L : List Value} {sent rcvd : Nat} (h : ([] : List Value) = (L.drop rcvd).take (sent - rcvd)) (hl : rcvd < L.length) (hle : rcvd <= sent) : sent = rcvd := by
 have := congrArg List.length h
 simp at this
 omega
theorem buf_tail {L : List Value} {sent rcvd : Nat} {b : Array Value} (h : b.toList = (L.drop rcvd).take (sent - rcvd)) (hne : 0 < b.size) : (b.extract 1 b.size).toList = (L.drop (rcvd + 1)).take (sent - (rcvd + 1)) /\ rcvd + 1 <= sent /\ rcvd < L.length /\ L[rcvd]? = some (b.getD 0 undef) := by
 obtain ⟨l⟩ := b
 simp only at h
 have hlen : 0 < ((L.drop rcvd).take (sent - rcvd)).length := by rw [<- h]; simpa using hne
 simp at hlen
 have h1 : rcvd + 1 <= sent := by omega
 have h2 : rcvd < L.length := by omega
 refine ⟨?_, h1, h2, ?_⟩
 · simp only [List.extract_toArray, List.size_toArray]
   rw [List.extract_eq_drop_take', List.take_of_length_le (Nat.le_refl _), h, List.drop_take, List.drop_drop]
   congr 1
 · subst h
   have e : ∃ k, sent - rcvd = k + 1 := ⟨sent - rcvd - 1, by omega⟩
   obtain ⟨k, e⟩ := e
   simp [e, h2, List.getElem?_take]
theorem buf_push {L : List Value} {sent rcvd : Nat} {b : Array Value} {x : Value} (h : b.toList = (L.drop rcvd).take (sent - rcvd)) (hx : L[sent]? = some x) (hle : rcvd <= sent) : (b.push x).toList = (L.drop rcvd).take (sent + 1 - rcvd) := by
 rw [Array.toList_push, h]
 have e : sent + 1 - rcvd = (sent - rcvd) + 1 := by omega
 rw [e, List.take_add_one, List.getElem?_drop, show rcvd + (sent - rcvd) = sent by omega, hx]
 rfl
theorem roundA_c (hPc : SimP P Fc Gc (fun b => b = false)) (hL : ∀ x ∈ L, PlainV x) (hX : ∀ g v, Xc g v -> AtRecv P f c K g v)
   (h : PhA P Fp Fc Gp Gc f n c cap K L closeD child l0 w0 Gb p q gs w t m sent rcvd mp mc bp bc buf pb cb) (h0 : gs[0]? = some (Go.Conc.G q.fr' q.l')) (hmc : mc = rcvd) (hcb : cb = 1)
   (hq : (∀ T d, Xc (Go.Conc.G q.fr q.l) (re q.v T d)) \/ (Goes1 [] [bottom f c] q.fr q.l /\ ∀ T d, ∃ g' v', step P (solo (Go.Conc.G q.fr q.l) (re q.v T d)) = .next (solo g' v') /\ g'.status = .running /\ NextC P Fp Fc Gp Gc f n c cap K L closeD child l0 w0 Gb Fin p g' v'))
   (hin : Inner P Fp Fc Gp Gc f n c cap K L closeD child l0 w0 Gb Fin p q (pb + cb + sumTo gs.size m))
   {w' : World} {sl' : Option (Nat × Nat)} (hst : stepT P (crowd gs w' sl') = runT P (crowd gs w sl) 0) : Reach P Fin gs w' sl' t := by
 have hcore := h.core
 have only : OnlyC q.ρ q.v c := hcore.onlyc
 obtain ⟨va, vb, hvc⟩ := hcore.vcc
 subst hmc; subst hcb
 rcases hq with hend | ⟨hgo, hkid⟩
 · -- it waits for the close
   obtain ⟨fr, z, ok, eG, hmode, hcomm, ca, cb, hch⟩ := hX _ _ (hend w.tape w.drawn)
   have eG' := eG
   simp only [Go.Conc.G, Goroutine.mk.injEq, and_true] at eG'
   obtain ⟨e1, e2⟩ := eG'
   have hx := hcomm w.tape w.drawn
   have hbc : bc = #[] := by
     have hch' : q.v.heap[c]? = some (.chan K #[] false ca cb false) := hch
     rw [hvc] at hch'
     simp only [Option.some.injEq, Obj.chan.injEq] at hch'
     exact hch'.2.1
   have hge : L.length <= mc := by
     have := congrArg List.length (hcore.tc)
     rw [hbc] at this
     simp at this
     omega
   obtain ⟨ρ₁, fr₁', l₁', w₂, es', cc', hs1, hcc, mv, hsr, hev⟩ := end_step (c := c) (z := z) (ok := ok) hPc hcore.lkc (by rw [e1]; exact hmode) hx true
   have hch2 : cc'.chan = .chan (some c) := by
     have := hcc.chan
     generalize cc'.chan = y at this
     cases this with
     | chan hh =>
       cases hh with
       | some hh =>
         have := (hcore.lkc.tape w.tape w.drawn w.tape w.drawn).moved mv hsr
         have := (this.one.inj _ _ _ _ (mv.ext _ _ hcore.sc) hh).1 rfl
         rw [<- this]
   have hsend : cc'.send = none := by
     have := hcc.send
     generalize cc'.send = y at this
     cases this
     rfl
   rw [comm_eta_r hch2 hsend] at hs1
   have hcore2 := (hcore.c_moved (T := w.tape) (d := w.drawn) mv hsr).c_tape
   have hbuf : buf = #[] := by
     apply Array.toList_inj.1
     rw [hcore.tb, List.drop_of_length_le hge]; simp
   subst hbuf
   -- the producer runs: it has nothing to be parked with
   have hps : ∃ y j, gs[n]? = some y /\ Pre P j y (Go.Conc.G p.fr' p.l') /\ mp = sent /\ pb = 1 + j := by
     rcases h.ps with e | ⟨x, z, a', e, _, _, hx, hsz, _⟩
     · exact e
     · have := h.cap0
       simp at hsz
       omega
   obtain ⟨yp, jp, hpn, hpre, hpm, hpb⟩ := hps
   have hlen : mc = L.length := by
     have := hcore.le
     have := h.sentL
     omega
   have hc2 : w₂.heap[c]? = some (.chan cap #[] false sent mc false) := hcore2.wc
   have hrun := crowd_waits (P := P) (gs := gs) (w := w) (sl := sl) (i := 0) h0 (show stepG P (0 == 0) _ w = _ from hs1) (by
     intro y hy
     have e : y = rcase c cc'.zero := by simpa using hy
     subst e
     exact ways_recv_none hc2 (partners_c_none h hpn hpre true))
   have hu : ∀ op ∈ MemOp.ofEvents 0 (Go.Conc.G q.fr' q.l').frame.fn (Go.Conc.G q.fr' q.l').frame.place es', op.g = 0 \/ op.g = n := fun op hop => .inl (own_ops op hop)
   refine Reach.step (hst.trans hrun) (hin p ⟨ρ₁, q.fr, q.l, fr₁', l₁', q.v⟩ _ _ _ _ m sent mc mp mc bp bc #[] pb 0 rfl rfl rfl rfl rfl rfl
     ⟨hcore2, duo_c h mv.ext hev hcore2.disj, h.n0, h.cap0, h.sentL, .inl ⟨yp, jp, by rw [set_off (Ne.symm h.n0)]; exact hpn, hpre, hpm, hpb⟩, .inr (.inr ⟨cc'.zero, ok, set_at h.z_lt, rfl, hlen, rfl⟩), others1 h.others hu (.inl rfl), above1 h.z_lt h.n_lt h.above hu⟩ ?_)
   rw [Array.size_setIfInBounds]
   omega
 · obtain ⟨g', v', hstep, hrun', hk⟩ := hkid w.tape w.drawn
   rcases node_step hPc (noRec_normal _) (noRec_normal _) hcore.lkc hgo hstep true with ⟨ρ₁, fr₁, l₁, fr₁', l₁', w₂, es', e1, e2, mv, hsr, hev⟩ | ⟨ρ₁, fr₁, l₁, fr₁', l₁', v₂, w₂, es, es', cc, cc', s, e1, e2, hcc, hD, hsh, mv, hsr, hev⟩
   · -- a step of its own
     have hcore2 := hcore.c_moved (T := w.tape) (d := w.drawn) mv hsr
     have hrun := runT_crowd_go (P := P) (gs := gs) (w := w) (sl := sl) (i := 0) h0 (show stepG P (0 == 0) _ w = _ from e1)
     rw [map_woken (calm_A h hcore2.wc)] at hrun
     have hu : ∀ op ∈ MemOp.ofEvents 0 (Go.Conc.G q.fr' q.l').frame.fn (Go.Conc.G q.fr' q.l').frame.place es', op.g = 0 \/ op.g = n := fun op hop => .inl (own_ops op hop)
     refine Reach.step (hst.trans hrun) (hk p ⟨ρ₁, fr₁, l₁, fr₁', l₁', v'⟩ _ _ _ _ m sent mc mp mc bp bc buf pb 1 rfl rfl rfl e2 rfl
       ⟨hcore2, duo_c h mv.ext hev hcore2.disj, h.n0, h.cap0, h.sentL, ?_, .inl ⟨set_at h.z_lt, rfl, rfl⟩, others1 h.others hu (.inl rfl), above1 h.z_lt h.n_lt h.above hu⟩)
     rw [set_off (Ne.symm h.n0)]
     exact h.ps
   · -- a receive
     obtain ⟨q1, q2⟩ := chan_of hcc e2 hstep hrun' (onlyC_moved mv only)
     have hnone : cc.send = none := by
       cases hx : cc.send with
       | none => rfl
       | some x => rw [hx] at hD; cases hD
     have hnone' : cc'.send = none := by
       have := hcc.send
       rw [hnone] at this
       generalize cc'.send = y at this
       cases this
       rfl
     obtain ⟨ok, rfl⟩ : ∃ ok, s = .recv ok := by
       cases s with
       | recv ok => exact ⟨ok, rfl⟩
       | send => have := hsh cc (by simp); rw [hnone] at this; cases this
       | select => exact hsh.elim
     rw [comm_eta_r q1 hnone] at e2
     rw [comm_eta_r q2 hnone'] at e1
     have hvc2 : v₂.heap[c]? = some (.chan K bc false va vb false) := mv.chan c _ hvc rfl
     by_cases hne : 0 < bc.size
     · obtain ⟨rfl, rfl⟩ := lone_recv e2 hvc2 hne hstep
       obtain ⟨r1, r2, r3⟩ := recv_tail hcore.tc hne
       have hplain := hL _ (List.mem_of_getElem? r3)
       generalize hval : bc.getD 0 undef = x at *
       have hcore2 := hcore.c_moved (T := w.tape) (d := w.drawn) mv hsr
       have hc2 := hcore2.wc
       have hfin : SRl P Fc Gc (fun b => b = false) .normal .normal [] [] [bottom f c] l0 ρ₁ (fr₁.finish (recvd ok x true) :: l₁) (fr₁'.finish (recvd ok x true) :: l₁') := hsr.swap (fun _ _ h => h.finish (plain_recvd hplain ok _ _)) (kind_finish _ _) (kind_finish _ _)
       have hpv : ∀ b : Array Value, b = bp -> put p.v c (.chan K b false b.size 0 false) = p.v := fun b hb => by subst hb; exact put_same hcore.vpc
       by_cases hbn : 0 < buf.size
       · -- there is something
         obtain ⟨k1, k2, k3, k4⟩ := buf_tail hcore.tb hbn
         have hxx : buf.getD 0 undef = x := by rw [k4] at r3; exact Option.some.inj r3
         rcases h.ps with ⟨yp, jp, hpn, hpre, hpm, hpb⟩ | ⟨y, z, a', hpn, hpf, hpm, hpx, hpsz, hpb⟩
         · have hrun := crowd_recv_buf (P := P) (gs := gs) (w := w) (sl := sl) (i := 0) h0 (show stepG P (0 == 0) _ w = _ from e1) hc2 hbn (partners_c_none h hpn hpre true)
           rw [hxx] at hrun
           have hcore3 := hcore2.turn hcore2.lkp.st hfin (sent' := sent) (rcvd' := mc + 1) (mp' := mp) (mc' := mc + 1) (x := va) (y := vb + 1) (bp' := bp) (bc' := bc.extract 1 bc.size) (buf' := buf.extract 1 buf.size) (closed' := false) hcore2.tp r1 k1 k2
           rw [hpv bp rfl] at hcore3
           have hso : ∀ op ∈ (#[{ g := 0, fn := (Go.Conc.G fr₁' l₁').frame.fn, pos := (Go.Conc.G fr₁' l₁').frame.place, act := .recv c mc cap }, { g := 0, fn := (Go.Conc.G fr₁' l₁').frame.fn, pos := (Go.Conc.G fr₁' l₁').frame.place, act := .recvDone c mc }] : Array MemOp), op.g = 0 /\ Still op := by
             intro op hop
             simp only [List.mem_toArray, List.mem_cons, List.not_mem_nil, or_false] at hop
             rcases hop with rfl | rfl <;> exact ⟨rfl, by simp [Still, MemAct.touch?]⟩
           have hu : ∀ op ∈ MemOp.ofEvents 0 (Go.Conc.G q.fr' q.l').frame.fn (Go.Conc.G q.fr' q.l').frame.place es' ++ #[({ g := 0, fn := (Go.Conc.G fr₁' l₁').frame.fn, pos := (Go.Conc.G fr₁' l₁').frame.place, act := .recv c mc cap } : MemOp), { g := 0, fn := (Go.Conc.G fr₁' l₁').frame.fn, pos := (Go.Conc.G fr₁' l₁').frame.place, act := .recvDone c mc }], op.g = 0 \/ op.g = n := by
             intro op hop
             rcases Array.mem_append.1 hop with k | k
             · exact .inl (own_ops op k)
             · exact .inl (hso op k).1
           refine Reach.step (hst.trans hrun) (hk _ _ _ _ _ _ m sent (mc + 1) mp (mc + 1) bp (bc.extract 1 bc.size) (buf.extract 1 buf.size) pb 1 rfl rfl rfl rfl rfl
             ⟨hcore3, still2 (duo_c h mv.ext hev hcore2.disj) (fun op hop => (hso op hop).2), h.n0, h.cap0, h.sentL, .inl ⟨yp, jp, ?_, hpre, hpm, hpb⟩, .inl ⟨?_, rfl, rfl⟩, others1 h.others hu (.inl rfl), above1 h.z_lt h.n_lt h.above hu⟩)
           · rw [set_off (Ne.symm h.n0)]; exact hpn
           · rw [set_at h.z_lt, finishComm_recv]; rfl
         · have hrun := crowd_recv_full (P := P) (gs := gs) (w := w) (sl := sl) (i := 0) h0 (show stepG P (0 == 0) _ w = _ from e1) hc2 hbn h.n0 hpn (partners_c_one h hpn)
           rw [hxx] at hrun
           have hpush := buf_push (rcvd := mc + 1) k1 hpx k2
           have hcore3 := hcore2.turn hcore2.lkp.st hfin (sent' := sent + 1) (rcvd' := mc + 1) (mp' := mp) (mc' := mc + 1) (x := va) (y := vb + 1) (bp' := bp) (bc' := bc.extract 1 bc.size) (buf' := (buf.extract 1 buf.size).push y) (closed' := false) hcore2.tp r1 hpush (by omega)
           rw [hpv bp rfl] at hcore3
           generalize hops : (#[{ g := 0, fn := (Go.Conc.G fr₁' l₁').frame.fn, pos := (Go.Conc.G fr₁' l₁').frame.place, act := .recv c mc cap }, { g := 0, fn := (Go.Conc.G fr₁' l₁').frame.fn, pos := (Go.Conc.G fr₁' l₁').frame.place, act := .recvDone c mc },
             { g := n, fn := (Go.Conc.G a' p.l').frame.fn, pos := (Go.Conc.G a' p.l').frame.place, act := .send c sent }, { g := n, fn := (Go.Conc.G a' p.l').frame.fn, pos := (Go.Conc.G a' p.l').frame.place, act := .sendDone c sent }] : Array MemOp) = ops at hrun
           have hso : ∀ op ∈ ops, (op.g = 0 \/ op.g = n) /\ Still op := by
             intro op hop
             subst hops
             simp only [List.mem_toArray, List.mem_cons, List.not_mem_nil, or_false] at hop
             rcases hop with rfl | rfl | rfl | rfl <;> simp [Still, MemAct.touch?]
           have hu : ∀ op ∈ MemOp.ofEvents 0 (Go.Conc.G q.fr' q.l').frame.fn (Go.Conc.G q.fr' q.l').frame.place es' ++ ops, op.g = 0 \/ op.g = n := by
             intro op hop
             rcases Array.mem_append.1 hop with k | k
             · exact .inl (own_ops op k)
             · exact (hso op k).1
           have hsl : sent + 1 <= L.length := by
             have := (List.getElem?_eq_some_iff.1 hpx).1
             omega
           refine Reach.step (hst.trans hrun) (hk _ _ _ _ _ _ m (sent + 1) (mc + 1) mp (mc + 1) bp (bc.extract 1 bc.size) ((buf.extract 1 buf.size).push y) 1 1 rfl rfl rfl rfl rfl
             ⟨hcore3, still2 (duo_c h mv.ext hev hcore2.disj) (fun op hop => (hso op hop).2), h.n0, h.cap0, hsl, .inl ⟨_, 0, ?_, rfl, hpm, rfl⟩, .inl ⟨?_, rfl, rfl⟩, othersA_own h.others hu (.inr rfl) (.inl rfl), aboveA_own h.z_lt h.n_lt h.above hu⟩)
           · rw [set_off (Ne.symm h.n0), set_at h.n_lt, finishComm_send]
             show some (Go.Conc.served (Go.Conc.G a' p.l') undef) = some (Go.Conc.G p.fr' p.l')
             rw [hpf]; rfl
           · rw [set_at (by rw [Array.size_setIfInBounds]; exact h.z_lt), finishComm_recv]; rfl
       · -- it waits for one
         have hbe : buf = #[] := Array.eq_empty_of_size_eq_zero (by omega)
         subst hbe
         have hps : ∃ y j, gs[n]? = some y /\ Pre P j y (Go.Conc.G p.fr' p.l') /\ mp = sent /\ pb = 1 + j := by
           rcases h.ps with e | ⟨x, z, a', e, _, _, hx, hsz, _⟩
           · exact e
           · have := h.cap0
             simp at hsz
             omega
         obtain ⟨yp, jp, hpn, hpre, hpm, hpb⟩ := hps
         have hrun := crowd_waits (P := P) (gs := gs) (w := w) (sl := sl) (i := 0) h0 (show stepG P (0 == 0) _ w = _ from e1) (by
           intro y hy
           have e : y = rcase c cc'.zero := by simpa using hy
           subst e
           exact ways_recv_none hc2 (partners_c_none h hpn hpre true))
         have hcore3 := hcore2.turn hcore2.lkp.st hfin (sent' := sent) (rcvd' := mc) (mp' := mp) (mc' := mc + 1) (x := va) (y := vb + 1) (bp' := bp) (bc' := bc.extract 1 bc.size) (buf' := #[]) (closed' := false) hcore2.tp r1 hcore2.tb hcore2.le
         rw [put_same hc2, hpv bp rfl] at hcore3
         have hu : ∀ op ∈ MemOp.ofEvents 0 (Go.Conc.G q.fr' q.l').frame.fn (Go.Conc.G q.fr' q.l').frame.place es', op.g = 0 \/ op.g = n := fun op hop => .inl (own_ops op hop)
         refine Reach.step (hst.trans hrun) (hk _ _ _ _ _ _ m sent mc mp (mc + 1) bp (bc.extract 1 bc.size) #[] pb 0 rfl rfl rfl rfl rfl
           ⟨hcore3, duo_c h mv.ext hev hcore2.disj, h.n0, h.cap0, h.sentL, .inl ⟨yp, jp, ?_, hpre, hpm, hpb⟩, .inr (.inl ⟨x, cc'.zero, ok, fr₁', set_at h.z_lt, rfl, rfl, r3, rfl, rfl⟩), others1 h.others hu (.inl rfl), above1 h.z_lt h.n_lt h.above hu⟩)
         rw [set_off (Ne.symm h.n0)]; exact hpn
     · exfalso
       have hbe : bc = #[] := Array.eq_empty_of_size_eq_zero (by omega)
       subst hbe
       have := lone_recv_empty e2 hvc2 hstep
       rw [hrun'] at this
       cases this
end
end Go.Bsd
