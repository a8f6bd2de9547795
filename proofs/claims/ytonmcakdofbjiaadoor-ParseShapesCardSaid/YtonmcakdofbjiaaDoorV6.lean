/-
  The parts: base Bsd7 base Bsd8 base Bsd9 base Bsd10 base Bsd11 base Bsd12
-/
import Derived.Test.YtonmcakdofbjiaaDoorV5
import Derived.KernelRfl
import Derived.Conc.CrowdComm
set_option linter.unusedVariables false
set_option linter.unusedSimpArgs false
set_option linter.unusedSectionVars false
set_option linter.unnecessarySimpa false
set_option maxRecDepth 100000
set_option maxHeartbeats 8000000
namespace Go.Bsd
open Go.Conc
attribute [local irreducible] Safe
section
variable {P : Program}
theorem nice_doReturn {fr : Frame} {cs : List Frame} (hf : TameF fr) (hc : ∀ c ∈ cs, TameF c) (dy : Option Dying) (v : Value) : Nice (fun w => doReturn P true fr cs dy v w) := by
 unfold doReturn
 cases cs with
 | cons c rest =>
   have h1 : TameF c := hc c (List.mem_cons_self ..)
   have h2 : ∀ x ∈ rest, TameF x := fun x hx => hc x (List.mem_cons_of_mem _ hx)
   dsimp only
   split
   · exact nice_go ⟨tame_finish h1 v, h2⟩
   · exact nice_go ⟨tame_finish h1 v, h2⟩
   · exact nice_go ⟨h1, h2⟩
   · refine nice_go ⟨?_, h2⟩
     split
     · split <;> exact h1
     · exact h1
 | nil =>
   dsimp only
   split
   · exact nice_go ⟨hf, by simp⟩
   · exact nice_ended _
   · refine nice_congr (fun w => if_neg (by simp)) ?_
     split
     · exact nice_go ⟨tame_enter _ _ _ _, by simp⟩
     · exact nice_ended _
theorem any_results (fn : Func) (tmps : Array Value) : Any P (results fn tmps) := by
 unfold results
 refine any_bind (any_mapM_array (fun r => ?_) _) fun _ => any_pure _
 split
 · exact any_pure _
 · exact any_bind (by simp) fun _ => by simp
theorem nice_callDeferred (hP : TameProg P) {fr : Frame} {cs : List Frame} (hf : TameF fr) (hc : ∀ c ∈ cs, TameF c) (dy : Option Dying) (d : Deferred) : Nice (fun w => callDeferred P fr cs dy d w) := by
 unfold callDeferred
 by_cases hcond : ((d.target matches .nil) && (fr.mode matches .panicking _)) = true
 · exact nice_congr (fun w => if_pos hcond) (nice_ended _)
 · refine nice_congr (fun w => if_neg hcond) ?_
   refine nice_of fun w => ?_
   have hcc : ∀ c ∈ fr :: cs, TameF c := fun c h => (List.mem_cons.1 h).elim (fun e => e ▸ hf) (hc c)
   obtain ⟨x, hr⟩ : ∃ x, (invoke d.target d.args).runT P w #[] = x := ⟨_, rfl⟩
   rcases point hr (okN_invoke hP d.target d.args) with ⟨hh, w', es, he, rfl⟩ | ⟨h1, h2, n, h3, h4, h5⟩
   · refine ends_at ?_
     simp only [hr]
     cases hh <;> first | exact he.elim | exact ⟨_, _, _, rfl⟩
   · obtain ⟨r, es⟩ := x
     simp only at h1 h2 h3 h4 h5
     cases r with
     | ok a w' =>
       obtain ⟨hpost, hb⟩ := h1 a w' rfl
       have hb' := bal_seen (P := P) (fn := fr.fn) hb
       cases a with
       | enter f args => exact comp_at (nice_after hb' (nice_go (g := { frame := Frame.enter P f args .deferred, callers := fr :: cs, status := .running, dying := dy }) ⟨tame_enter _ _ _ _, hcc⟩)) h3 h4 (by simp only [hr]; try rfl) (fun T d hT => by simp only [h5 T d hT]; try rfl)
       | round l f t as bd => exact comp_at (nice_after hb' (nice_go (g := { frame := Frame.round l f t as bd .deferred, callers := fr :: cs, status := .running, dying := dy }) ⟨tame_round _ _ _ _ _ _, hcc⟩)) h3 h4 (by simp only [hr]; try rfl) (fun T d hT => by simp only [h5 T d hT]; try rfl)
       | row row args => exact comp_at (nice_after hb' (nice_go (g := { frame := Frame.ofRow P row args .deferred, callers := fr :: cs, status := .running, dying := dy }) ⟨fun i hi => by simp only [Frame.ofRow, List.mem_singleton] at hi; subst hi; exact hpost, hcc⟩)) h3 h4 (by simp only [hr]; try rfl) (fun T d hT => by simp only [h5 T d hT]; try rfl)
       | recover =>
         have hm : ∀ w, (match fr.mode, tryRecover fr cs with
             | .returning, some (_, callers) => GStep.go { frame := fr, callers, status := .running, dying := dy } w
             | _, _ => .go { frame := fr, callers := cs, status := .running, dying := dy } w) = GStep.go { frame := fr, callers := (match fr.mode, tryRecover fr cs with | .returning, some (_, callers) => callers | _, _ => cs), status := .running, dying := dy } w := by
           intro w
           cases fr.mode <;> first | rfl | (cases tryRecover fr cs <;> rfl)
         refine comp_at (nice_after hb' (nice_go (g := { frame := fr, callers := (match fr.mode, tryRecover fr cs with | .returning, some (_, callers) => callers | _, _ => cs), status := .running, dying := dy }) ⟨hf, ?_⟩)) h3 h4 (by simp only [hr]; rw [<- hm]; try rfl) (fun T d hT => by simp only [h5 T d hT]; rw [<- hm]; try rfl)
         dsimp only
         split
         · rename_i callers _ hrec
           exact tame_recover cs fr _ callers hc hrec
         · exact hc
       | coroswitch c e =>
         obtain rfl : e = true := hpost
         exact comp_at (nice_after hb' (nice_coro (g := { frame := fr, callers := cs, status := .running, dying := dy }) ⟨hf, hc⟩ c rfl)) h3 h4 (by simp only [hr]; try rfl) (fun T d hT => by simp only [h5 T d hT]; try rfl)
       | numGoroutine => exact hpost.elim
       | collect => exact hpost.elim
       | watch v => exact hpost.elim
       | newcoro c d => exact hpost.elim
       | sleep t => exact hpost.elim
       | timer op => exact hpost.elim
       | alone on v => exact hpost.elim
       | callThen d r sv wr => exact hpost.elim
       | stack r sv => exact hpost.elim
       | _ => exact comp_at (nice_after hb' (nice_go (g := { frame := fr, callers := cs, status := .running, dying := dy }) ⟨hf, hc⟩)) h3 h4 (by simp only [hr]; try rfl) (fun T d hT => by simp only [h5 T d hT]; try rfl)
     | halt hh w' =>
       obtain ⟨hnf, hb⟩ := h2 hh w' rfl
       cases hh with
       | panic v => exact comp_at (nice_after (bal_seen (P := P) (fn := fr.fn) (hb trivial)) (nice_go (g := { frame := fr.raise [{ v, recovered := false }], callers := cs, status := .running, dying := dy }) ⟨tame_raise hf _, hc⟩)) h3 h4 (by simp only [hr]; try rfl) (fun T d hT => by simp only [h5 T d hT]; try rfl)
       | goexit => exact comp_at (nice_after (bal_seen (P := P) (fn := fr.fn) (hb trivial)) (nice_go (g := { frame := fr.raise [goexitEntry], callers := cs, status := .running, dying := dy }) ⟨tame_raise hf _, hc⟩)) h3 h4 (by simp only [hr]; try rfl) (fun T d hT => by simp only [h5 T d hT]; try rfl)
       | throw m => exact comp_at (nice_after (bal_seen (P := P) (fn := fr.fn) (hb trivial)) (nice_throw hf m)) h3 h4 (by simp only [hr]; try rfl) (fun T d hT => by simp only [h5 T d hT]; try rfl)
       | blocked => exact comp_at (nice_after (bal_seen (P := P) (fn := fr.fn) bal_nil) (nice_go (g := { frame := { fr with defers := d :: fr.defers }, callers := cs, status := .blocked, dying := dy }) ⟨hf, hc⟩)) h3 h4 (by simp only [hr]; try rfl) (fun T d hT => by simp only [h5 T d hT]; try rfl)
       | waiting => exact comp_at (nice_after (bal_seen (P := P) (fn := fr.fn) bal_nil) (nice_go (g := { frame := { fr with defers := d :: fr.defers }, callers := cs, status := .waiting, dying := dy }) ⟨hf, hc⟩)) h3 h4 (by simp only [hr]; try rfl) (fun T d hT => by simp only [h5 T d hT]; try rfl)
       | fatal m => exact absurd rfl (hnf m)
       | _ => exact ends_at (by simp only [hr]; exact ⟨_, _, _, rfl⟩)
theorem nice_unwind (hP : TameProg P) {fr : Frame} {cs : List Frame} (hf : TameF fr) (hc : ∀ c ∈ cs, TameF c) (dy : Option Dying) : Nice (fun w => unwind P true fr cs dy w) := by
 unfold unwind
 split
 · rename_i block _ ds _
   refine nice_run (P := P) (post := fun _ => True) (s := Instr.takeDeferred block) (by simp) (fun r es => GStep.after (seen P fr.fn es) (match r with
     | .ok calls w => .go { frame := { fr with defers := calls ++ ds }, callers := cs, status := .running, dying := dy } w
     | .halt _ w => .ended (.stuck "the deferred calls of a range-over-func loop have been taken" (fr.pos P)) w)) (fun w => rfl) ?_ ?_ ?_
   · exact fun a es _ hb => nice_after (bal_seen hb) (nice_go ⟨hf, hc⟩)
   · exact fun h w es _ => ⟨_, _, _, rfl⟩
   · exact fun h es _ _ _ => fun w => .inl ⟨_, _, _, rfl⟩
 · rename_i d ds _ _
   exact nice_callDeferred hP (fr := { fr with defers := ds }) hf hc dy d
 · split
   · exact nice_ended _
   · rename_i chain _
     split
     · exact nice_ended _
     · split
       · rename_i caller rest
         exact nice_go ⟨tame_raise (hc caller (List.mem_cons_self ..)) _, fun x hx => hc x (List.mem_cons_of_mem _ hx)⟩
       · split
         · split
           · exact nice_go ⟨hf, by simp⟩
           · refine nice_run (P := P) (any_reportChain chain false) (fun r _ => match r with
               | .ok todo w => .go { frame := fr, callers := [], status := .running, dying := some { todo, texts := [], calling := false, pending := "", runtimeError := isRuntimeError P (chain.head?.map (·.v)) } } w
               | .halt (.unsupported u) w => .ended (.unsupported u "") w
               | .halt _ w => .ended (.stuck "the report of a panic" "") w) (fun w => by rw [run_eq]; rfl) ?_ ?_ ?_
             · exact fun a es _ _ => nice_go ⟨hf, by simp⟩
             · intro h w es he
               cases h <;> first | exact he.elim | exact ⟨_, _, _, rfl⟩
             · intro h es _ _ _ w
               cases h <;> exact .inl ⟨_, _, _, rfl⟩
         · split
           · exact nice_printing hf _
           · exact nice_ended _
   · split
     · exact nice_doReturn hf hc dy _
     · rename_i fn _
       refine nice_run (P := P) (any_results fn fr.tmps) (fun r es => GStep.after (seen P fr.fn es) (match r with
         | .ok v w => doReturn P true fr cs dy v w
         | .halt (.stuck s) w => .ended (.stuck s (fr.pos P)) w
         | .halt _ w => .ended (.stuck "return: the result variables cannot be read" (fr.pos P)) w)) (fun w => rfl) ?_ ?_ ?_
       · exact fun a es _ hb => nice_after (bal_seen hb) (nice_doReturn hf hc dy a)
       · intro h w es he
         cases h <;> exact ⟨_, _, _, rfl⟩
       · intro h es _ _ _ w
         cases h <;> exact .inl ⟨_, _, _, rfl⟩
theorem next_print : Extern.next "runtime.print$piece" = some (Extern.PrintPieces.piece #[] #[]) := by kernel_rfl
theorem nice_oper (hP : TameProg P) {fr : Frame} {cs : List Frame} (hf : TameF fr) (hc : ∀ c ∈ cs, TameF c) (dy : Option Dying) : Nice (fun w => stepG.oper P true fr cs dy w) := by
 unfold stepG.oper
 split
 · exact nice_ended _
 · rename_i o _
   have plain := nice_apply (P := P) (okN_execOp hP fr.eval o) hf hc dy
   split
   · rename_i l c _ _
     refine nice_apply (P := P) ?_ hf hc dy
     exact Safe.bnd' (any_resolve _ _ _) fun d => Safe.bnd' (by simp) fun _ => okN_pure trivial
   · exact plain
theorem nice_leave {fr : Frame} {cs : List Frame} (hf : TameF fr) (hc : ∀ c ∈ cs, TameF c) (dy : Option Dying) (jump : Option Code) : Nice (fun w => match fr.roundOf with
     | none => if (match jump with | none => true | some .ret => true | _ => false) = true then GStep.go { frame := { fr with mode := .returning }, callers := cs, status := .running, dying := dy } w else .ended (.stuck "exit, goto: no such block or label" (fr.pos P)) w
     | some l => match (Instr.endRound l jump).runT P w #[] with
       | (r, es) => GStep.after (seen P fr.fn es) (match r with
         | .ok v w => doReturn P true fr cs dy v w
         | .halt _ w => .ended (.stuck "range over a function: no such loop" (fr.pos P)) w)) := by
   cases fr.roundOf with
   | none =>
     dsimp only
     generalize (match jump with | none => true | some .ret => true | _ => false) = b
     cases b with
     | true => exact nice_go ⟨hf, hc⟩
     | false => exact nice_ended _
   | some l =>
     refine nice_run (P := P) (post := fun _ => True) (s := Instr.endRound l jump) (by simp) (fun r es => GStep.after (seen P fr.fn es) (match r with
         | .ok v w => doReturn P true fr cs dy v w
         | .halt _ w => .ended (.stuck "range over a function: no such loop" (fr.pos P)) w)) (fun w => rfl) ?_ ?_ ?_
     · exact fun a es _ hb => nice_after (bal_seen hb) (nice_doReturn hf hc dy a)
     · exact fun h w es _ => ⟨_, _, _, rfl⟩
     · exact fun h es _ _ _ => fun w => .inl ⟨_, _, _, rfl⟩
theorem nice_exec (hP : TameProg P) {fr : Frame} {cs : List Frame} (hf : TameF fr) (hc : ∀ c ∈ cs, TameF c) (dy : Option Dying) : Nice (fun w => stepG.exec P true true fr cs dy w) := by
 obtain ⟨fn, tmps, todo, defers, mode, kind, ro⟩ := fr
 have tl : ∀ {x : Item} {k : List Item}, todo = x :: k -> ∀ i ∈ k, TameItem i := fun e i hi => hf i (by show i ∈ todo; rw [e]; exact List.mem_cons_of_mem _ hi)
 have to : ∀ (todo : List Item), (∀ i ∈ todo, TameItem i) -> Nice (fun w => GStep.go { frame := ⟨fn, tmps, todo, defers, mode, kind, ro⟩, callers := cs, status := .running, dying := dy } w) := fun todo h => nice_go ⟨h, hc⟩
 have leave := fun jump => nice_leave (P := P) hf hc dy jump
 unfold stepG.exec
 dsimp only
 cases todo with
 | nil => exact leave none
 | cons it k =>
   have hk := tl rfl
   have cons : ∀ (x : Item) (l : List Item), TameItem x -> (∀ i ∈ l, TameItem i) -> ∀ i ∈ x :: l, TameItem i := fun x l hx hl i hi => (List.mem_cons.1 hi).elim (fun e => e ▸ hx) (hl i)
   cases it with
   | code c =>
     cases c with
     | skip => exact to k hk
     | region id ops draw =>
       dsimp only
       cases draw with
       | false => exact to _ (cons _ _ trivial hk)
       | true =>
         refine nice_congr (fun w => if_neg (by simp)) ?_
         refine nice_run (P := P) (any_choose (.order fn id)) (fun r _ => match r with
           | .ok t w => .go { frame := ⟨fn, tmps, .inRegion ops (Region.schedule (P.follows .mixedOrders) ops t) :: k, defers, mode, kind, ro⟩, callers := cs, status := .running, dying := dy } w
           | .halt _ w => .ended (.stuck "order" (Frame.pos P ⟨fn, tmps, .code (.region id ops true) :: k, defers, mode, kind, ro⟩)) w) (fun w => by rw [run_eq]; rfl) ?_ ?_ ?_
         · exact fun a es _ _ => to _ (cons _ _ trivial hk)
         · exact fun h w es _ => ⟨_, _, _, rfl⟩
         · exact fun h es _ _ _ => nice_ended _
     | seq a b => exact to _ (cons _ _ trivial (cons _ _ trivial hk))
     | cond c thn els =>
       dsimp only
       split
       · exact to _ (cons _ _ trivial hk)
       · exact nice_ended _
     | block id body => exact to _ (cons _ _ trivial (cons _ _ trivial hk))
     | loop body => exact to _ (cons _ _ trivial (cons _ _ trivial hk))
     | rangeFunc f params assign body =>
       dsimp only
       refine nice_run (P := P) (post := fun _ => True) (s := Instr.enterLoop fn tmps params assign body ro) (by simp) (fun r es => GStep.after (seen P fn es) (match r with
         | .ok (l, mark) w => stepG.apply P true ⟨fn, tmps, .inRangeFunc l :: k, mark ++ defers, mode, kind, ro⟩ cs dy (do let d <- resolve (Frame.eval ⟨fn, tmps, .inRangeFunc l :: k, mark ++ defers, mode, kind, ro⟩) { callee := .value f, args := #[.const (.func (.yield l) #[] #[])], argTypes := #[] } 0; invoke d.target d.args) w
         | .halt _ w => .ended (.stuck "range over a function: no such loop" (Frame.pos P ⟨fn, tmps, .code (.rangeFunc f params assign body) :: k, defers, mode, kind, ro⟩)) w)) (fun w => rfl) ?_ ?_ ?_
       · intro a es _ hb
         obtain ⟨l, mark⟩ := a
         exact nice_after (bal_seen hb) (nice_apply (P := P) (Safe.bnd' (any_resolve _ _ _) fun d => okN_invoke hP d.target d.args) (fr := ⟨fn, tmps, .inRangeFunc l :: k, mark ++ defers, mode, kind, ro⟩) (cons _ _ trivial hk) hc dy)
       · exact fun h w es _ => ⟨_, _, _, rfl⟩
       · exact fun h es _ _ _ => fun w => .inl ⟨_, _, _, rfl⟩
     | exit id =>
       dsimp only
       cases he : exitTo id k with
       | none => exact leave (some (.exit id))
       | some k' => exact to k' (tame_exitTo id k k' hk he)
     | scope body => exact to _ (cons _ _ trivial (cons _ _ trivial hk))
     | label l => exact to k hk
     | goto l =>
       dsimp only
       cases he : gotoIn l k with
       | none => exact leave (some (.goto l))
       | some k' => exact to k' (tame_gotoIn l k k' hk he)
     | ret => exact leave (some .ret)
     | refuse why => exact nice_ended _
   | inBlock id => exact to k hk
   | inLoop body => exact to _ (cons _ _ trivial (cons _ _ trivial hk))
   | inScope body => exact to k hk
   | inRegion ops todo =>
     cases todo with
     | nil => exact to k hk
     | cons i rest =>
       dsimp only
       split
       · exact nice_oper hP hf hc dy
       · exact nice_go ⟨tame_finish hf _, hc⟩
   | inRangeFunc l => exact nice_ended _
   | endRangeFunc l =>
     dsimp only
     refine nice_run (P := P) (post := fun _ => True) (s := Instr.endLoop l) (by simp) (fun r es => GStep.after (seen P fn es) (match r with
       | .ok jump w => .go { frame := ⟨fn, tmps, (jump.map Item.code).toList ++ k, defers, mode, kind, ro⟩, callers := cs, status := .running, dying := dy } w
       | .halt (.panic v) w => .go { frame := Frame.raise ⟨fn, tmps, .endRangeFunc l :: k, defers, mode, kind, ro⟩ [{ v, recovered := false }], callers := cs, status := .running, dying := dy } w
       | .halt _ w => .ended (.stuck "range over a function: no such loop" (Frame.pos P ⟨fn, tmps, .endRangeFunc l :: k, defers, mode, kind, ro⟩)) w)) (fun w => rfl) ?_ ?_ ?_
     · intro a es _ hb
       refine nice_after (bal_seen hb) (to _ ?_)
       cases a with
       | none => exact hk
       | some c => exact cons _ _ trivial hk
     · intro h w es he
       cases h <;> first | exact he.elim | exact ⟨_, _, _, rfl⟩
     · intro h es hb _ _
       cases h with
       | panic v => exact nice_after (bal_seen (hb trivial)) (nice_go ⟨tame_raise hf _, hc⟩)
       | _ => exact fun w => .inl ⟨_, _, _, rfl⟩
   | beginRound =>
     refine nice_apply (P := P) ?_ hf hc dy
     refine Safe.bnd' ?_ fun _ => okN_pure trivial
     cases ro with
     | none => exact any_stuck _
     | some l => exact any_Instr_beginRound l
   | call d wr rs sv => exact False.elim (hf (.call d wr rs sv) (List.mem_cons_self ..))
   | extern row args =>
     have hrow : row = "runtime.print$piece" := hf (.extern row args) (List.mem_cons_self ..)
     subst hrow
     refine nice_congr (fun w => by simp only [next_print, Option.elim_some]) (nice_apply (P := P) (okN_piece #[] #[] args) hf hc dy)
end
theorem nice_step {P : Program} (hP : TameProg P) {g : Goroutine} (hg : TameG g) : Nice (fun w => stepG P true g w) := by
 obtain ⟨fr, cs, st, dy, off⟩ := g
 obtain ⟨hf, hc⟩ := hg
 simp only at hf hc
 have rest : Nice (fun w => match fr.mode with | .run => stepG.exec P true true fr cs dy w | _ => unwind P true fr cs dy w) := by
   cases fr.mode with
   | run => exact nice_exec hP hf hc dy
   | _ => exact nice_unwind hP hf hc dy
 cases dy with
 | none =>
   cases hm : fr.mode with
   | run => exact nice_congr (fun w => by unfold stepG; simp only [hm]) (nice_exec hP hf hc none)
   | returning => exact nice_congr (fun w => by unfold stepG; simp only [hm]) (nice_unwind hP hf hc none)
   | panicking ch => exact nice_congr (fun w => by unfold stepG; simp only [hm]) (nice_unwind hP hf hc none)
 | some d =>
   cases hcl : d.calling with
   | false => exact nice_congr (fun w => by unfold stepG; obtain ⟨td, tx, cl, pd, re, hd, ft⟩ := d; simp only at hcl; subst hcl; rfl) (nice_die hP hf d)
   | true =>
     cases hm : fr.mode with
     | run => exact nice_congr (fun w => by unfold stepG; obtain ⟨td, tx, cl, pd, re, hd, ft⟩ := d; simp only at hcl; subst hcl; simp only [hm]) (nice_exec hP hf hc (some d))
     | returning => exact nice_congr (fun w => by unfold stepG; obtain ⟨td, tx, cl, pd, re, hd, ft⟩ := d; simp only at hcl; subst hcl; simp only [hm]) (nice_unwind hP hf hc (some d))
     | panicking ch => exact nice_congr (fun w => by unfold stepG; obtain ⟨td, tx, cl, pd, re, hd, ft⟩ := d; simp only at hcl; subst hcl; simp only [hm]) (nice_unwind hP hf hc (some d))
end Go.Bsd
namespace Go.Bsd
open Go.Conc
def NoOffer (gs : Array Goroutine) : Prop := ∀ r s, partners gs r s = []
theorem ways_no {gs : Array Goroutine} (h : NoOffer gs) (w : World) (c : CommCase) : ways w gs c = ways w #[] c := by
 have h0 : ∀ r s, partners #[] r s = [] := fun r s => rfl
 have h1 : ∀ r s, partners gs r s = [] := h
 unfold ways
 simp only [h1, h0]
def QuietOps (i : Nat) (ops : Array MemOp) : Prop := ∀ op ∈ ops, op.g = i /\ op.act.touch? = none /\ op.act ≠ .mark .disable /\ op.act ≠ .mark .enable
def NotPartner : Way -> Prop
 | .partner _ _ => False
 | _ => True
theorem ways_not (w : World) (c : CommCase) : ∀ y ∈ ways w #[] c, NotPartner y := by
 have h0 : ∀ r s, partners #[] r s = [] := fun r s => rfl
 intro y hy
 unfold ways at hy
 simp only [h0] at hy
 repeat' first | (split at hy) | (simp at hy; done) | (simp only [List.mem_singleton] at hy; subst hy; exact trivial)
theorem comm_two {P : Program} {rest1 rest2 : Rest} (t1 : rest1.timers = #[]) (t2 : rest2.timers = #[]) {gs1 gs2 : Array Goroutine} (n1 : NoOffer gs1) (n2 : NoOffer gs2) (i : Nat) {g : Goroutine} (hg : TameG g) (haw : awake g)
   (cases : Array CommCase) (b : Bool) (sh : CommShape) (w : World) :
   (∃ o w' ops, communicate P rest1 gs1 i g cases b sh w = (.ended o w', ops)) \/
   ∃ g' w' ops n, (TameG g' /\ awake g') /\ QuietOps i ops /\ w'.tape = w.tape /\ w'.drawn = w.drawn + n /\
     communicate P rest1 gs1 i g cases b sh w = (.next { world := w', gs := gs1.setIfInBounds i g', rest := rest1 }, ops) /\
     communicate P rest2 gs2 i g cases b sh w = (.next { world := w', gs := gs2.setIfInBounds i g', rest := rest2 }, ops) /\
     ∀ T d, Follows w n T d -> communicate P rest1 gs1 i g cases b sh (re w T d) = (.next { world := re w' T (d + n), gs := gs1.setIfInBounds i g', rest := rest1 }, ops) := by
 have tf : ∀ (k : Int) (v : Value) (ok : Bool), TameG (g.finishComm P cases sh k v ok) /\ awake (g.finishComm P cases sh k v ok) := fun k v ok => ⟨⟨tame_finish hg.1 _, hg.2⟩, by intro t; simp [Goroutine.finishComm]⟩
 have ta1 : ∀ m, timerAhead rest1 m cases = false := by
   intro m
   unfold timerAhead
   rw [Array.any_eq_false]
   intro k hk
   split <;> simp [t1]
 have ta2 : ∀ m, timerAhead rest2 m cases = false := by
   intro m
   unfold timerAhead
   rw [Array.any_eq_false]
   intro k hk
   split <;> simp [t2]
 have hwr : ∀ T d c, ways (re w T d) #[] c = ways w #[] c := fun T d c => rfl
 have n1' : ∀ r s, partners gs1 r s = [] := n1
 have n2' : ∀ r s, partners gs2 r s = [] := n2
 unfold communicate
 simp only [ways_no n1, ways_no n2, n1', n2', waitingAt, ta1, ta2, hwr, re_heap, Bool.false_eq_true, if_false]
 split
 · exact .inl ⟨_, _, _, rfl⟩
 · split
   · split
     · exact .inr ⟨{ g with status := .blocked, offers := some (cases, sh) }, w, #[], 0, ⟨hg, by intro t; simp⟩, by simp [QuietOps], rfl, rfl, rfl, rfl, fun T d _ => rfl⟩
     · exact .inr ⟨g.finishComm P cases sh (-1) undef false, w, #[], 0, tf _ _ _, by simp [QuietOps], rfl, rfl, rfl, rfl, fun T d _ => rfl⟩
   · have hR : ∀ x ∈ List.filter (fun x : Nat × CommCase × List Way => !x.2.2.isEmpty) (List.map (fun x : CommCase × Nat => (x.2, x.1, ways w #[] x.1)) cases.zipIdx.toList), ∀ y ∈ x.2.2, NotPartner y := by
       intro x hx y hy
       obtain ⟨z, _, rfl⟩ := List.mem_map.1 (List.mem_filter.1 hx).1
       exact ways_not w _ y hy
     generalize List.filter (fun x : Nat × CommCase × List Way => !x.2.2.isEmpty) (List.map (fun x : CommCase × Nat => (x.2, x.1, ways w #[] x.1)) cases.zipIdx.toList) = R at hR
     simp only [run_eq]
     have hsafe : Safe P (fun x : Nat × CommCase × Way => NotPartner x.2.2) 0 (do
         let a <- choose (.select R.length)
         let b <- choose (.extern "which waiting goroutine is the partner" (R.getD a (0, default, [])).2.2.length)
         pure ((R.getD a (0, default, [])).1, (R.getD a (0, default, [])).2.1, (R.getD a (0, default, [])).2.2.getD b .closed)) := by
       intro a b
       refine ⟨rfl, ?_⟩
       show NotPartner ((R.getD a (0, default, [])).2.2.getD b .closed)
       rw [List.getD_eq_getElem?_getD]
       cases hb : (R.getD a (0, default, [])).2.2[b]? with
       | none => trivial
       | some y =>
         have hy := List.mem_of_getElem? hb
         rw [List.getD_eq_getElem?_getD] at hy
         cases ha : R[a]? with
         | none => rw [ha] at hy; simp at hy
         | some x => rw [ha] at hy; exact hR x (List.mem_of_getElem? ha) y hy
     rcases point (w := w) rfl hsafe with ⟨h, w', es, he, e⟩ | ⟨h1, h2, n, h3, h4, h5⟩
     · rw [e]
       exact .inl ⟨_, _, _, rfl⟩
     · generalize hr : Sem.runT P _ w #[] = r at h1 h2 h3 h4 h5 ⊢
       obtain ⟨r, es⟩ := r
       cases r with
       | halt h w' => exact .inl ⟨_, _, _, rfl⟩
       | ok x w' =>
         obtain ⟨k, c, way⟩ := x
         have hw := (h1 _ w' rfl).1
         simp only at h3 h4 h5
         have hh5 : ∀ T d, (re w' T d).heap = w'.heap := fun T d => rfl
         cases way with
         | partner h k' => exact hw.elim
         | closed =>
           refine .inr ⟨g.finishComm P cases sh k c.zero false, w', #[{ g := i, fn := g.frame.fn, pos := g.frame.place, act := .recvClosed (match c.chan with | .chan (some r) => r | _ => 0) }], n, tf _ _ _, ?_, h3, h4, rfl, rfl, fun T d hT => by rw [h5 T d hT]; rfl⟩
           intro op hop
           simp only [List.mem_toArray, List.mem_singleton] at hop
           subst hop
           exact ⟨rfl, rfl, by simp, by simp⟩
         | sendClosed =>
           have hp : ∀ w : World, ((runtimePanic (.plain "send on closed channel") : Sem Unit).runT P w #[]).1 = .halt (.panic (.iface P.rt.plainError (strVal "send on closed channel"))) w := fun w => rfl
           refine .inr ⟨{ g with frame := g.frame.raise [{ v := .iface P.rt.plainError (strVal "send on closed channel"), recovered := false }] }, w', #[], n, ⟨⟨tame_raise hg.1 _, hg.2⟩, haw⟩, by simp [QuietOps], h3, h4, ?_, ?_, fun T d hT => ?_⟩
           · dsimp only; rw [hp]
           · dsimp only; rw [hp]
           · rw [h5 T d hT]; dsimp only [mapW]; rw [hp]
         | buffer =>
           obtain ⟨ch, sd, z⟩ := c
           cases ch
           case chan o =>
             cases o
             all_goals
               dsimp only
               generalize hx : w'.heap[(_ : Nat)]? = ob
               cases ob with
               | none => exact .inl ⟨_, _, _, rfl⟩
               | some o =>
                 cases o with
                 | chan cap buf closed sent rcvd tm =>
                   cases sd with
                   | some v =>
                     refine .inr ⟨_, _, _, n, ?_, ?_, ?_, ?_, rfl, rfl, fun T d hT => ?_⟩
                     · exact tf _ _ _
                     · intro op hop
                       simp only [List.mem_toArray, List.mem_cons, List.not_mem_nil, or_false] at hop
                       rcases hop with rfl | rfl <;> exact ⟨rfl, rfl, by simp, by simp⟩
                     · exact h3
                     · exact h4
                     · rw [h5 T d hT]; dsimp only [mapW]; rw [hh5, hx]; rfl
                   | none =>
                     refine .inr ⟨_, _, _, n, ?_, ?_, ?_, ?_, rfl, rfl, fun T d hT => ?_⟩
                     · exact tf _ _ _
                     · intro op hop
                       simp only [List.mem_toArray, List.mem_cons, List.not_mem_nil, or_false] at hop
                       rcases hop with rfl | rfl <;> exact ⟨rfl, rfl, by simp, by simp⟩
                     · exact h3
                     · exact h4
                     · rw [h5 T d hT]; dsimp only [mapW]; rw [hh5, hx]; rfl
                 | _ => exact .inl ⟨_, _, _, rfl⟩
           all_goals
               dsimp only
               generalize hx : w'.heap[(_ : Nat)]? = ob
               cases ob with
               | none => exact .inl ⟨_, _, _, rfl⟩
               | some o =>
                 cases o with
                 | chan cap buf closed sent rcvd tm =>
                   cases sd with
                   | some v =>
                     refine .inr ⟨_, _, _, n, ?_, ?_, ?_, ?_, rfl, rfl, fun T d hT => ?_⟩
                     · exact tf _ _ _
                     · intro op hop
                       simp only [List.mem_toArray, List.mem_cons, List.not_mem_nil, or_false] at hop
                       rcases hop with rfl | rfl <;> exact ⟨rfl, rfl, by simp, by simp⟩
                     · exact h3
                     · exact h4
                     · rw [h5 T d hT]; dsimp only [mapW]; rw [hh5, hx]; rfl
                   | none =>
                     refine .inr ⟨_, _, _, n, ?_, ?_, ?_, ?_, rfl, rfl, fun T d hT => ?_⟩
                     · exact tf _ _ _
                     · intro op hop
                       simp only [List.mem_toArray, List.mem_cons, List.not_mem_nil, or_false] at hop
                       rcases hop with rfl | rfl <;> exact ⟨rfl, rfl, by simp, by simp⟩
                     · exact h3
                     · exact h4
                     · rw [h5 T d hT]; dsimp only [mapW]; rw [hh5, hx]; rfl
                 | _ => exact .inl ⟨_, _, _, rfl⟩
end Go.Bsd
namespace Go.Bsd
open Go.Conc
def Others (gs : Array Goroutine) : Prop := ∀ (j : Nat) (x : Goroutine), 0 < j -> gs[j]? = some x -> x.status = .running \/ x.status = .finished
def OwnOps (ops : Array MemOp) : Prop := (∀ op ∈ ops, op.g = 0) /\ ∀ t, Deaf (t ++ ops) 0 = Deaf t 0
theorem ownOps_app {a b : Array MemOp} (ha : OwnOps a) (hb : OwnOps b) : OwnOps (a ++ b) := ⟨fun op h => (Array.mem_append.1 h).elim (ha.1 op) (hb.1 op), fun t => by rw [<- Array.append_assoc, hb.2, ha.2]⟩
theorem ownOps_events {fn : FuncId} {pos : String} {es : Array Event} (h : Bal es) : OwnOps (MemOp.ofEvents 0 fn pos es) := ⟨fun op hop => by obtain ⟨e, _, rfl⟩ := Go.Conc.mem_ofEvents hop; rfl, fun t => by rw [Deaf_own]; exact h.1 _⟩
theorem ownOps_quiet {ops : Array MemOp} (h : QuietOps 0 ops) : OwnOps ops := by
 refine ⟨fun op hop => (h op hop).1, fun t => ?_⟩
 have e : t ++ ops = t ++ ops.toList.toArray := by simp
 rw [e, Deaf_append]
 have : ∀ (l : List MemOp) (d : Nat), (∀ op ∈ l, op.act ≠ .mark .disable /\ op.act ≠ .mark .enable) -> l.foldl (deafStep 0) d = d := by
   intro l
   induction l with
   | nil => intros; rfl
   | cons x l ih =>
     intro d hl
     obtain ⟨h1, h2⟩ := hl x (List.mem_cons_self ..)
     rw [List.foldl_cons]
     have e1 : deafStep 0 d x = d := by
       unfold deafStep
       split
       · rename_i e; exact absurd e h1
       · rename_i e; exact absurd e h2
       · rfl
     rw [e1]
     exact ih d fun op hop => hl op (List.mem_cons_of_mem _ hop)
 exact this _ _ fun op hop => (h op (Array.mem_toList_iff.1 hop)).2.2
theorem woken_others {P : Program} {gs : Array Goroutine} (h : Others gs) (g g' : Goroutine) (w' : World) (x : Goroutine) : (gs.map (woken P g g' w')).setIfInBounds 0 x = gs.setIfInBounds 0 x := by
 apply Array.ext_getElem?
 intro j
 rcases Nat.eq_zero_or_pos j with rfl | hj
 · by_cases hs : 0 < gs.size
   · rw [Array.getElem?_setIfInBounds_self_of_lt (by simpa using hs), Array.getElem?_setIfInBounds_self_of_lt hs]
   · rw [Array.getElem?_eq_none (by simpa using hs), Array.getElem?_eq_none (by simpa using hs)]
 · rw [Array.getElem?_setIfInBounds_ne (by omega), Array.getElem?_setIfInBounds_ne (by omega), Array.getElem?_map]
   cases hx : gs[j]? with
   | none => rfl
   | some y =>
     simp only [Option.map_some, Option.some.injEq]
     unfold woken
     split
     · exact again_running _ (h j y hj hx)
     · rfl
theorem noOffer_others {gs : Array Goroutine} (h : Others gs) (x : Goroutine) (hx : x.status = .finished) : NoOffer (gs.setIfInBounds 0 x) := by
 intro r s
 refine partners_nil fun j g hg => offersAt_of_not_blocked ?_ r s
 rcases Nat.eq_zero_or_pos j with rfl | hj
 · by_cases hs : 0 < gs.size
   · rw [Array.getElem?_setIfInBounds_self_of_lt hs] at hg
     cases hg
     rw [hx]; simp
   · rw [Array.getElem?_eq_none (by simpa using hs)] at hg; cases hg
 · rw [Array.getElem?_setIfInBounds_ne (by omega)] at hg
   rcases h j g hj hg with e | e <;> rw [e] <;> simp
theorem step_solo {P : Program} {g : Goroutine} {w : World} (h : g.status = .running) : step P (solo g w) = (runT P (solo g w) 0).1 := by rw [step, stepT_solo h]
theorem others_solo (g : Goroutine) : Others #[g] := fun j x hj hx => by
 rw [Array.getElem?_eq_none (by simp; omega)] at hx; cases hx
theorem mod0 (gs : Array Goroutine) (x y : Goroutine) (f : Goroutine -> Goroutine) : ((gs.setIfInBounds 0 y).setIfInBounds 0 x).modify 0 f = gs.setIfInBounds 0 (f x) := by
 apply Array.ext_getElem?
 intro j
 rw [Array.getElem?_modify]
 rcases Nat.eq_zero_or_pos j with rfl | hj
 · by_cases hs : 0 < gs.size
   · simp [hs]
   · have : gs.size = 0 := by omega
     simp [this]
 · have : 0 ≠ j := by omega
   simp [this, Array.getElem?_setIfInBounds_ne this]
theorem modS (x y : Goroutine) (h : Nat) (f : Goroutine -> Goroutine) : (((#[y] : Array Goroutine).setIfInBounds 0 ph).setIfInBounds 0 x).modify (h + 1) f = #[x] := by
 apply Array.ext_getElem?
 intro j
 rw [Array.getElem?_modify]
 rcases Nat.eq_zero_or_pos j with rfl | hj
 · simp
 · have : (((#[y] : Array Goroutine).setIfInBounds 0 ph).setIfInBounds 0 x)[j]? = none := Array.getElem?_eq_none (by simp; omega)
   rw [this, Array.getElem?_eq_none (by simp; omega)]
   split <;> rfl
theorem own_step {P : Program} (hP : TameProg P) {g : Goroutine} (hg : TameG g) (hrun : g.status = .running) (w : World) :
   (∃ o w', step P (solo g w) = .ended o w') \/ (∃ m, step P (solo g w) = .next m /\ m.gs.size = 2) \/ (∃ g' w', step P (solo g w) = .next (solo g' w') /\ g'.status = .finished) \/
   ∃ g' w' n, (TameG g' /\ awake g') /\ w'.tape = w.tape /\ w'.drawn = w.drawn + n /\ step P (solo g w) = .next (solo g' w') /\
     (∀ T d, Follows w n T d -> step P (solo g (re w T d)) = .next (solo g' (re w' T (d + n)))) /\
     ∀ gs sl, gs[0]? = some g -> Others gs -> ∃ ops, runT P (crowd gs w sl) 0 = (.next (crowd (gs.setIfInBounds 0 g') w' sl), ops) /\ OwnOps ops := by
 simp only [step_solo hrun]
 rcases nice_step hP hg w with ⟨o, w', es, e⟩ | ⟨hf, n, h1, h2, h3⟩
 · exact .inl ⟨o, w', by rw [solo_eq_crowd, runT_many_ended (by rfl) e]⟩
 · dsimp only at hf h1 h2 h3
   cases hs : stepG P true g w with
   | go g' w' es =>
     rw [hs] at hf h1 h2 h3
     refine .inr (.inr (.inr ⟨g', w', n, ⟨hf.1, hf.2.2⟩, h1, h2, by rw [runT_solo_go hs], fun T d hT => by rw [runT_solo_go (h3 T d hT)], fun gs sl h0 ho => ⟨MemOp.ofEvents 0 g.frame.fn g.frame.place es, ?_, ownOps_events hf.2.1⟩⟩))
     have := runT_crowd_go (P := P) (w := w) (sl := sl) (i := 0) h0 (show stepG P (0 == 0) g w = _ from hs)
     rw [woken_others ho] at this
     exact this
   | comm g' cs b sh w' es =>
     rw [hs] at hf h1 h2 h3
     have c1 := runT_crowd_comm (P := P) (gs := #[g]) (w := w) (sl := none) (i := 0) (g := g) rfl (show stepG P (0 == 0) g w = _ from hs)
     have hno1 : NoOffer ((#[g] : Array Goroutine).setIfInBounds 0 ph) := noOffer_others (others_solo g) ph rfl
     have two := fun (gs : Array Goroutine) (sl : Option (Nat × Nat)) (ho : Others gs) => comm_two (P := P) (rest1 := (crowd #[g] w none).rest) (rest2 := (crowd gs w sl).rest) rfl rfl hno1 (noOffer_others ho ph rfl) 0 hf.1 hf.2.2 cs b sh w'
     rcases two #[g] none (others_solo g) with ⟨o, w'', ops, e⟩ | ⟨g'', w'', ops, m, ht, hq, e1, e2, e3, _, e5⟩
     · left
       exact ⟨o, w'', by rw [solo_eq_crowd, c1, e]⟩
     · right; right; right
       refine ⟨g'', w'', n + m, ht, e1.trans h1, by rw [e2]; simp only [wOf] at h2; rw [h2]; omega, ?_, fun T d hT => ?_, fun gs sl h0 ho => ?_⟩
       · rw [solo_eq_crowd, c1, e3]; rfl
       · obtain ⟨f1, f2⟩ := hT.split w' h1 h2
         have c2 := runT_crowd_comm (P := P) (gs := #[g]) (w := re w T d) (sl := none) (i := 0) (g := g) rfl (show stepG P (0 == 0) g (re w T d) = _ from h3 T d f1)
         have e6 := e5 T (d + n) f2
         rw [solo_eq_crowd, c2]
         show (communicate P (crowd #[g] w none).rest _ 0 g' cs b sh (re w' T (d + n))).1 = _
         rw [e6, <- Nat.add_assoc]
         rfl
       · have c2 := runT_crowd_comm (P := P) (gs := gs) (w := w) (sl := sl) (i := 0) h0 (show stepG P (0 == 0) g w = _ from hs)
         rcases two gs sl ho with ⟨o, w3, ops3, e⟩ | ⟨g3, w3, ops3, m3, ht3, hq3, _, _, a3, a4, _⟩
         · rw [e] at e3; cases e3
         · rw [a3] at e3
           simp only [Prod.mk.injEq, Stepped.next.injEq, Machine.mk.injEq, and_true] at e3
           obtain ⟨⟨rfl, eg⟩, rfl⟩ := e3
           have eg' : g3 = g'' := by simpa using eg
           subst eg'
           refine ⟨MemOp.ofEvents 0 g.frame.fn g.frame.place es ++ ops3, ?_, ownOps_app (ownOps_events hf.2.1) (ownOps_quiet hq)⟩
           rw [c2, a4]
           simp [crowd]
   | spawn g' c w' es => exact .inr (.inl ⟨_, by rw [runT_solo_spawn hs], rfl⟩)
   | coroswitch g' c e w' es =>
     rw [hs] at hf h1 h2 h3
     obtain ⟨rfl, ht, hb, _⟩ := hf
     have run : ∀ (gs : Array Goroutine) (sl : Option (Nat × Nat)) (v w1 : World), gs[0]? = some g -> stepG P true g v = .coroswitch g' c true w1 es ->
         runT P (crowd gs v sl) 0 = ((match w1.heap[c]? with
           | some (.coro (some h)) => .next { world := { w1 with heap := w1.heap.setIfInBounds c (.coro none) }, gs := ((gs.setIfInBounds 0 ph).setIfInBounds 0 { g' with status := .finished }).modify h (fun o => { o with status := .running }), rest := (crowd gs v sl).rest }
           | some (.coro none) => (match endThrow g'.frame "coroswitch on exited coro" w1 with
             | .go g w _ => .next { world := w, gs := (gs.setIfInBounds 0 ph).setIfInBounds 0 g, rest := (crowd gs v sl).rest }
             | _ => .ended (.stuck "" "") w1)
           | _ => .ended (.stuck "coroswitch: no coroutine" "") w1), MemOp.ofEvents 0 g.frame.fn g.frame.place es) := by
       intro gs sl v w1 h0 hst
       obtain ⟨hlt, rfl⟩ := Array.getElem?_eq_some_iff.1 h0
       have hsw := swapAt_of_lt hlt { (default : Goroutine) with status := .finished }
       have hset : gs.set 0 { (default : Goroutine) with status := .finished } = gs.setIfInBounds 0 ph := by simp [Array.setIfInBounds, hlt, ph]
       show runT P { world := v, gs := gs, rest := { timers := #[], alone := none, slice := sl } } 0 = _
       unfold runT
       have hst' : stepG P (0 == 0) gs[0] v = .coroswitch g' c true w1 es := hst
       simp only [hsw, hst', GStep.es, hset, crowd]
       rfl
     have r1 := run #[g] none w w' rfl hs
     rw [<- solo_eq_crowd] at r1
     cases hx : w'.heap[c]? with
     | none => exact .inl ⟨_, _, by rw [r1, hx]⟩
     | some o =>
       cases o with
       | coro p =>
         cases p with
         | none =>
           refine .inr (.inr (.inr ⟨{ frame := g'.frame, callers := [], status := .running, dying := some { todo := [], texts := [], calling := false, pending := "", runtimeError := false, fatal := some { pieces := [] ++ bytes "fatal error: " :: indentedPieces (bytes "coroswitch on exited coro") ++ [bytes "\n"], text := "coroswitch on exited coro", whole := false, begun := false } } }, w', n, ⟨⟨ht.1, by simp⟩, by intro t; simp⟩, h1, h2, ?_, fun T d hT => ?_, fun gs sl h0 ho => ⟨MemOp.ofEvents 0 g.frame.fn g.frame.place es, ?_, ownOps_events hb⟩⟩))
           · rw [r1, hx]; rfl
           · have := run #[g] none (re w T d) (re w' T (d + n)) rfl (h3 T d hT)
             rw [<- solo_eq_crowd, re_heap, hx] at this
             rw [this]; rfl
           · have := run gs sl w w' h0 hs
             rw [hx] at this
             rw [this]
             simp [endThrow, dieOf, crowd]
         | some h =>
           cases h with
           | zero =>
             refine .inr (.inr (.inr ⟨{ g' with status := .running }, { w' with heap := w'.heap.setIfInBounds c (.coro none) }, n, ⟨ht, by intro t; simp⟩, h1, h2, ?_, fun T d hT => ?_, fun gs sl h0 ho => ⟨MemOp.ofEvents 0 g.frame.fn g.frame.place es, ?_, ownOps_events hb⟩⟩))
             · rw [r1, hx]
               dsimp only
               rw [mod0]
               rfl
             · have := run #[g] none (re w T d) (re w' T (d + n)) rfl (h3 T d hT)
               rw [<- solo_eq_crowd, re_heap, hx] at this
               rw [this]
               dsimp only
               rw [mod0]
               rfl
             · have := run gs sl w w' h0 hs
               rw [hx] at this
               rw [this]
               dsimp only
               rw [mod0]
               rfl
           | succ h =>
             refine .inr (.inr (.inl ⟨{ g' with status := .finished }, { w' with heap := w'.heap.setIfInBounds c (.coro none) }, ?_, rfl⟩))
             rw [r1, hx]
             dsimp only
             rw [modS]
             rfl
       | _ => exact .inl ⟨_, _, by rw [r1, hx]⟩
   | ended o w' es => exact .inl ⟨o, w', by rw [solo_eq_crowd, runT_many_ended (by rfl) hs]⟩
   | count g' w' es => rw [hs] at hf; exact hf.elim
   | timer g' op w' es => rw [hs] at hf; exact hf.elim
   | alone g' on w' es => rw [hs] at hf; exact hf.elim
   | newcoro g' c d w' es => rw [hs] at hf; exact hf.elim
   | collect g' w' es => rw [hs] at hf; exact hf.elim
   | watch g' w' es => rw [hs] at hf; exact hf.elim
end Go.Bsd
namespace Go.Bsd
open Go.Conc
/-! ### what never comes back -/
theorem step_dead {P : Program} {g : Goroutine} {w : World} (h : g.status ≠ .running) (ha : awake g) :
   (∃ o w', step P (solo g w) = .ended o w') \/ step P (solo g w) = .next (solo g w) := by
 have h' : g.status = .blocked \/ g.status = .waiting \/ g.status = .finished \/ g.status = .parked := by
   cases hs : g.status with
   | running => exact absurd hs h
   | sleeping t => exact absurd hs (ha t)
   | blocked => exact .inl rfl
   | waiting => exact .inr (.inl rfl)
   | parked => exact .inr (.inr (.inr rfl))
   | finished => exact .inr (.inr (.inl rfl))
 have hr : runnable (solo g w).gs (solo g w).world.os.mono = [] := by
   rw [runnable_eq]
   rcases h' with h | h | h | h <;> simp [solo, Goroutine.canRun, h]
 have hd : due (solo g w).rest.timers (solo g w).world.os.mono = [] := by simp [due, solo]
 have had : ahead (solo g w) false = none := by
   rcases h' with h | h | h | h <;> simp [ahead, solo, h]
 have hm : move P (solo g w) = .machine (.next (solo g w)) \/ ∃ o w' ops, move P (solo g w) = .machine (.ended o w') ops := by
   unfold move
   have h0 : (solo g w).rest.alone = none := rfl
   have h1 : (solo g w).rest.slice = none := rfl
   have h2 : (solo g w).rest.watch = false := rfl
   simp only [h0, h1, ask, h2, Bool.false_eq_true, if_false, askOn, hr, hd, had, List.isEmpty_nil, if_true, pure, Sem.run, List.length_nil, Nat.not_lt_zero, served]
   have hw : ({ world := w, gs := (solo g w).gs, rest := (solo g w).rest } : Machine) = solo g w := rfl
   split
   · exact .inl rfl
   · right
     split
     · exact ⟨_, _, _, rfl⟩
     · exact ⟨_, _, _, rfl⟩
 unfold step stepT
 rcases hm with e | ⟨o, w', ops, e⟩
 · right; rw [e]
 · left; exact ⟨o, w', by rw [e]⟩
theorem runN_dead {P : Program} {g : Goroutine} {w : World} (h : g.status ≠ .running) (ha : awake g) : ∀ (n : Nat) (g' : Goroutine) (w' : World), g'.status = .running -> runN P n (solo g w) ≠ .next (solo g' w') := by
 intro n
 induction n with
 | zero =>
   intro g' w' hr e
   simp only [runN, Stepped.next.injEq] at e
   have : (solo g w).gs = (solo g' w').gs := by rw [e]
   simp only [solo, Array.mk.injEq, List.cons.injEq, and_true] at this
   rw [this] at h
   exact h hr
 | succ n ih =>
   intro g' w' hr e
   simp only [runN] at e
   rcases step_dead (P := P) (w := w) h ha with ⟨o, w1, e1⟩ | e1
   · rw [e1] at e; cases e
   · rw [e1] at e; exact ih g' w' hr e
end Go.Bsd
namespace Go.Bsd
open Go.Conc
def Up (n : Nat) (s : Stepped) : Prop := ∀ m', s = .next m' -> n <= m'.gs.size
theorem up_ended (n : Nat) (o : Outcome) (w : World) : Up n (.ended o w) := fun _ h => by cases h
theorem up_next {n : Nat} {m : Machine} (h : n <= m.gs.size) : Up n (.next m) := fun _ e => by cases e; exact h
theorem size_finishPartner (P : Program) (gs : Array Goroutine) (h k : Nat) (v : Value) : (finishPartner P gs h k v).size = gs.size := by simp [finishPartner]
theorem up_communicate {P : Program} (rest : Rest) (gs : Array Goroutine) (i : Nat) (g : Goroutine) (cases : Array CommCase) (b : Bool) (sh : CommShape) (w : World) : Up gs.size (communicate P rest gs i g cases b sh w).1 := by
 unfold communicate
 dsimp only
 repeat' first
   | exact up_ended _ _ _
   | exact up_next (by simp [size_finishPartner])
   | split
theorem size_giveWork (P : Program) (gs : Array Goroutine) (r : Option Nat) (items : List Item) (st : Bool) : gs.size <= (giveWork P gs r items st).1.size := by
 unfold giveWork
 dsimp only
 split <;> simp
theorem up_look {P : Program} (gs : Array Goroutine) (rest : Rest) (w : World) : Up gs.size (look P gs rest w) := by
 unfold look
 dsimp only
 repeat' first
   | exact up_ended _ _ _
   | exact up_next (Nat.le_refl _)
   | exact up_next (size_giveWork _ _ _ _ _)
   | exact up_next (Nat.le_trans (size_giveWork _ _ _ _ _) (size_giveWork _ _ _ _ _))
   | split
theorem up_serve {P : Program} (m : Machine) (k : Nat) : Up m.gs.size (serve P m k) := by
 unfold serve
 split
 · exact up_ended _ _ _
 · exact up_next (by simp)
 · dsimp only
   split
   · exact up_ended _ _ _
   · exact up_next (by simp)
theorem size_swapAt (gs : Array Goroutine) (i : Nat) (d : Goroutine) : (gs.swapAt! i d).2.size = gs.size := by
 unfold Array.swapAt!
 split
 · simp [Array.swapAt]
 · rfl
theorem up_runT {P : Program} (m : Machine) (i : Nat) : Up m.gs.size (runT P m i).1 := by
 unfold runT
 dsimp only
 have hs := size_swapAt m.gs i { (default : Goroutine) with status := .finished }
 generalize m.gs.swapAt! i { (default : Goroutine) with status := .finished } = x at hs
 obtain ⟨g, gs⟩ := x
 simp only at hs
 rw [<- hs]
 split
 · exact up_ended _ _ _
 · exact up_communicate _ _ _ _ _ _ _ _
 · refine up_next ?_
   dsimp only
   split <;> simp
 · exact up_next (by simp)
 · split
   · exact up_ended _ _ _
   · exact up_next (by simp)
 · exact up_next (by simp)
 · have := up_look (P := P) (gs.setIfInBounds i ‹_›) m.rest ‹_›
   simpa using this
 · exact up_next (by simp)
 · exact up_next (by simp)
 · repeat' first
     | exact up_ended _ _ _
     | exact up_next (by simp)
     | split
 · repeat' first
     | exact up_ended _ _ _
     | (refine up_next ?_; simp; done)
     | split
def UpM (n : Nat) : Move -> Prop
 | .machine s _ => Up n s
 | .goroutine m _ => n <= m.gs.size
theorem up_pick {P : Program} (m : Machine) (rs : List Nat) : UpM m.gs.size (match (choose (.sched rs.length)).run P m.world with
     | .halt _ w => Move.machine (.ended (.stuck "sched" "") w)
     | .ok k world =>
       if rs.length <= 1 then .goroutine { m with world } (rs.getD k 0) else
       match (choose (.extern "sched.slice" 65536)).run P world with
       | .halt _ w => .machine (.ended (.stuck "sched.slice" "") w)
       | .ok n world => .goroutine { m with world, rest := { m.rest with slice := if n = 0 then none else some (rs.getD k 0, n) } } (rs.getD k 0)) := by
 repeat' first
   | exact up_ended _ _ _
   | exact Nat.le_refl _
   | split
theorem up_askOn {P : Program} (m : Machine) : UpM m.gs.size (askOn P m) := by
 unfold askOn
 dsimp only
 repeat' first
   | exact up_ended _ _ _
   | exact up_serve _ _
   | exact up_next (Nat.le_refl _)
   | exact up_pick { m with world := _ } _
   | exact Nat.le_refl _
   | split
theorem up_ask {P : Program} (m : Machine) : UpM m.gs.size (ask P m) := by
 unfold ask
 split
 · split
   · exact up_ended _ _ _
   · split
     · rename_i m' h
       have h1 : m.gs.size <= m'.gs.size := up_look (P := P) m.gs m.rest _ m' h
       have h2 := up_askOn (P := P) m'
       revert h2
       cases askOn P m' with
       | goroutine m2 i => exact fun h2 => Nat.le_trans h1 h2
       | machine s ops => exact fun h2 m3 e => Nat.le_trans h1 (h2 m3 e)
     · rename_i e hne
       have := up_look (P := P) m.gs m.rest ‹World›
       exact this
   · exact up_askOn { m with world := _ }
 · exact up_askOn m
theorem up_move {P : Program} (m : Machine) : UpM m.gs.size (move P m) := by
 unfold move
 repeat' first
   | exact up_ended _ _ _
   | exact up_ask _
   | exact Nat.le_refl _
   | split
theorem up_step {P : Program} (m : Machine) : Up m.gs.size (step P m) := by
 have h := up_move (P := P) m
 unfold step stepT
 revert h
 cases move P m with
 | goroutine m2 i => exact fun h m3 e => Nat.le_trans h (up_runT (P := P) m2 i m3 e)
 | machine s ops => exact fun h => h
theorem up_run {P : Program} : ∀ (n : Nat) (m m' : Machine), runN P n m = .next m' -> m.gs.size <= m'.gs.size := by
 intro n
 induction n with
 | zero => intro m m' e; cases e; exact Nat.le_refl _
 | succ n ih =>
   intro m m' e
   simp only [runN] at e
   cases hs : step P m with
   | ended o w => rw [hs] at e; cases e
   | next m1 =>
     rw [hs] at e
     exact Nat.le_trans (up_step (P := P) m m1 hs) (ih m1 m' e)
end Go.Bsd
namespace Go.Bsd
open Go.Conc
def TapeFree (S : Goroutine -> World -> Prop) : Prop := ∀ g w T d, S g w -> S g (re w T d)
def Lone (P : Program) (S : Goroutine -> World -> Prop) (g : Goroutine) (w : World) : Prop :=
 ∀ T d, ∃ n g' w', runN P n (solo g (re w T d)) = .next (solo g' w') /\ g'.status = .running /\ S g' w'
inductive Must (P : Program) (S : Goroutine -> World -> Prop) : Goroutine -> World -> Prop
 | stop {g : Goroutine} {w : World} (h : ∀ T d, S g (re w T d)) : Must P S g w
 | step {g : Goroutine} {w : World} (hr : g.status = .running) (ht : TameG g) (g' : (Nat -> Question -> Nat) -> Nat -> Goroutine) (w' : (Nat -> Question -> Nat) -> Nat -> World)
     (h1 : ∀ T d, (g' T d).status = .running) (h2 : ∀ T d, step P (solo g (re w T d)) = .next (solo (g' T d) (w' T d))) (h3 : ∀ T d, Must P S (g' T d) (w' T d)) : Must P S g w
section
variable {P : Program} {S : Goroutine -> World -> Prop}
theorem solo_inj {g g' : Goroutine} {w w' : World} (h : solo g w = solo g' w') : g = g' /\ w = w' := by
 have h1 : (solo g w).gs = (solo g' w').gs := by rw [h]
 have h2 : (solo g w).world = (solo g' w').world := by rw [h]
 simp only [solo, Array.mk.injEq, List.cons.injEq, and_true] at h1
 exact ⟨h1, h2⟩
theorem first_step (hP : TameProg P) {g : Goroutine} {w : World} (ht : TameG g) (hr : g.status = .running) {n : Nat} {g₁ : Goroutine} {w₁ : World} (h : runN P (n + 1) (solo g w) = .next (solo g₁ w₁)) (hr₁ : g₁.status = .running) :
   ∃ g' w' k, g'.status = .running /\ TameG g' /\ w'.tape = w.tape /\ w'.drawn = w.drawn + k /\ step P (solo g w) = .next (solo g' w') /\ (∀ T d, Follows w k T d -> step P (solo g (re w T d)) = .next (solo g' (re w' T (d + k)))) /\
     runN P n (solo g' w') = .next (solo g₁ w₁) := by
 simp only [runN] at h
 rcases own_step hP ht hr w with ⟨o, w', e⟩ | ⟨m, e, hm⟩ | ⟨g', w', e, hf⟩ | ⟨g', w', k, ⟨hg, ha⟩, h1, h2, h3, h4, h5⟩
 · rw [e] at h; cases h
 · rw [e] at h
   have := up_run n m (solo g₁ w₁) h
   rw [hm] at this
   simp [solo] at this
 · rw [e] at h
   exact absurd h (runN_dead (by rw [hf]; simp) (by intro t; rw [hf]; simp) n g₁ w₁ hr₁)
 · rw [h3] at h
   by_cases hs : g'.status = .running
   · exact ⟨g', w', k, hs, hg, h1, h2, h3, h4, h⟩
   · exact absurd h (runN_dead hs ha n g₁ w₁ hr₁)
theorem shift (hP : TameProg P) : ∀ (n : Nat) {g : Goroutine} {w : World} {T T' : Nat -> Question -> Nat} {a b : Nat} {g₁ : Goroutine} {w₁ : World}, TameG g -> g.status = .running -> (∀ i q, T' (b + i) q = T (a + i) q) ->
   runN P n (solo g (re w T a)) = .next (solo g₁ w₁) -> g₁.status = .running -> ∃ b', runN P n (solo g (re w T' b)) = .next (solo g₁ (re w₁ T' b')) := by
 intro n
 induction n with
 | zero =>
   intro g w T T' a b g₁ w₁ ht hr hT h hr₁
   simp only [runN, Stepped.next.injEq] at h
   obtain ⟨rfl, rfl⟩ := solo_inj h
   exact ⟨b, rfl⟩
 | succ n ih =>
   intro g w T T' a b g₁ w₁ ht hr hT h hr₁
   obtain ⟨g', w', k, hs, hg, h1, h2, h3, h4, h5⟩ := first_step hP ht hr h hr₁
   have h6 := h4 T' b (fun i hi q => hT i q)
   simp only [re_re, re_tape, re_drawn] at h6 h1 h2
   have ew : re w' T (a + k) = w' := by rw [<- h1, <- h2]; exact re_self w'
   rw [<- ew] at h5
   obtain ⟨b', h7⟩ := ih (b := b + k) hg hs (fun i q => by rw [Nat.add_assoc, Nat.add_assoc]; exact hT (k + i) q) h5 hr₁
   exact ⟨b', by simp only [runN]; rw [h6]; exact h7⟩
theorem lone_step (hP : TameProg P) (hS : TapeFree S) {g g' : Goroutine} {w w' : World} {k : Nat} (ht : TameG g) (hr : g.status = .running) (hL : Lone P S g w) (hn : ¬ ∀ T d, S g (re w T d))
   (hg : TameG g') (hs : g'.status = .running) (hw : w'.tape = w.tape) (h4 : ∀ T d, Follows w k T d -> step P (solo g (re w T d)) = .next (solo g' (re w' T (d + k)))) : Lone P S g' w' := by
 intro T' d'
 obtain ⟨n, g₁, w₁, h1, h2, h3⟩ := hL (fun i q => if i < k then w.tape (w.drawn + i) q else T' (d' + (i - k)) q) 0
 cases n with
 | zero =>
   exfalso
   simp only [runN, Stepped.next.injEq] at h1
   obtain ⟨rfl, rfl⟩ := solo_inj h1
   exact hn fun T d => (hS _ _ T d h3 :)
 | succ n =>
   have hf := h4 (fun i q => if i < k then w.tape (w.drawn + i) q else T' (d' + (i - k)) q) 0 (fun i hi q => by simp [hi])
   simp only [runN] at h1
   rw [hf] at h1
   simp only [Nat.zero_add] at h1
   obtain ⟨b', h5⟩ := shift hP n (T' := T') (b := d') hg hs (fun i q => by rw [if_neg (by omega)]; congr 2; omega) h1 h2
   exact ⟨n, g₁, _, h5, h2, hS _ _ _ _ h3⟩
/-! ### an endless branch gives a tape -/
structure Bad (P : Program) (S : Goroutine -> World -> Prop) where
 g : Goroutine
 w : World
 tame : TameG g
 run : g.status = .running
 lone : Lone P S g w
 bad : ¬ Must P S g w
theorem bad_step (hP : TameProg P) (hS : TapeFree S) (x : Bad P S) : ∃ (y : Bad P S) (U : Nat -> Question -> Nat) (d k : Nat), ∀ T d', Follows (re x.w U d) k T d' -> step P (solo x.g (re x.w T d')) = .next (solo y.g (re y.w T (d' + k))) := by
 have hn : ¬ ∀ T d, S x.g (re x.w T d) := fun h => x.bad (.stop h)
 have : ¬ ∀ T d, ∃ g' w', g'.status = .running /\ step P (solo x.g (re x.w T d)) = .next (solo g' w') /\ Must P S g' w' := fun h => x.bad (.step x.run x.tame (fun T d => Classical.choose (h T d)) (fun T d => Classical.choose (Classical.choose_spec (h T d))) (fun T d => (Classical.choose_spec (Classical.choose_spec (h T d))).1) (fun T d => (Classical.choose_spec (Classical.choose_spec (h T d))).2.1) (fun T d => (Classical.choose_spec (Classical.choose_spec (h T d))).2.2))
 obtain ⟨U, hU⟩ := Classical.not_forall.1 this
 obtain ⟨d, hd⟩ := Classical.not_forall.1 hU
 obtain ⟨n, g₁, w₁, h1, h2, h3⟩ := x.lone U d
 cases n with
 | zero =>
   exfalso
   simp only [runN, Stepped.next.injEq] at h1
   obtain ⟨rfl, rfl⟩ := solo_inj h1
   exact hn fun T d => (hS _ _ T d h3 :)
 | succ n =>
   obtain ⟨g', w', k, hs, hg, e1, e2, e3, e4, e5⟩ := first_step hP x.tame x.run h1 h2
   have e4' : ∀ T d', Follows (re x.w U d) k T d' -> step P (solo x.g (re x.w T d')) = .next (solo g' (re w' T (d' + k))) := fun T d' h => e4 T d' h
   refine ⟨⟨g', w', hg, hs, lone_step hP hS (w := re x.w U d) x.tame x.run (fun T d => x.lone T d) (fun h => hn fun T d => h T d) hg hs e1 e4', fun hm => hd ⟨g', w', hs, e3, hm⟩⟩, U, d, k, e4'⟩
/-! ### the tape of an endless branch -/
section
variable (hP : TameProg P) (hS : TapeFree S) (x₀ : Bad P S)
noncomputable def nextBad (x : Bad P S) : Bad P S := Classical.choose (bad_step hP hS x)
noncomputable def tapeAt (x : Bad P S) : Nat -> Question -> Nat := Classical.choose (Classical.choose_spec (bad_step hP hS x))
noncomputable def drawBad (x : Bad P S) : Nat := Classical.choose (Classical.choose_spec (Classical.choose_spec (bad_step hP hS x)))
noncomputable def manyBad (x : Bad P S) : Nat := Classical.choose (Classical.choose_spec (Classical.choose_spec (Classical.choose_spec (bad_step hP hS x))))
theorem bad_spec (x : Bad P S) : ∀ T d', Follows (re x.w (tapeAt hP hS x) (drawBad hP hS x)) (manyBad hP hS x) T d' -> step P (solo x.g (re x.w T d')) = .next (solo (nextBad hP hS x).g (re (nextBad hP hS x).w T (d' + manyBad hP hS x))) :=
 Classical.choose_spec (Classical.choose_spec (Classical.choose_spec (Classical.choose_spec (bad_step hP hS x))))
noncomputable def seqBad : Nat -> Bad P S
 | 0 => x₀
 | n + 1 => nextBad hP hS (seqBad n)
noncomputable def offBad : Nat -> Nat
 | 0 => 0
 | n + 1 => offBad n + manyBad hP hS (seqBad hP hS x₀ n)
theorem off_mono : ∀ (n k : Nat), offBad hP hS x₀ n <= offBad hP hS x₀ (n + k)
 | n, 0 => Nat.le_refl _
 | n, k + 1 => Nat.le_trans (off_mono n k) (by show _ <= offBad hP hS x₀ (n + k) + _; omega)
def InBad (i n : Nat) : Prop := offBad hP hS x₀ n <= i /\ i < offBad hP hS x₀ (n + 1)
theorem inBad_one {i n m : Nat} (h : InBad hP hS x₀ i n) (h' : InBad hP hS x₀ i m) : n = m := by
 rcases Nat.lt_trichotomy n m with e | e | e
 · have := off_mono hP hS x₀ (n + 1) (m - (n + 1))
   rw [show n + 1 + (m - (n + 1)) = m by omega] at this
   have := h.2; have := h'.1; omega
 · exact e
 · have := off_mono hP hS x₀ (m + 1) (n - (m + 1))
   rw [show m + 1 + (n - (m + 1)) = n by omega] at this
   have := h'.2; have := h.1; omega
noncomputable def tapeBad (i : Nat) (q : Question) : Nat :=
 @dite _ (∃ n, InBad hP hS x₀ i n) (Classical.propDecidable _) (fun h => tapeAt hP hS (seqBad hP hS x₀ (Classical.choose h)) (drawBad hP hS (seqBad hP hS x₀ (Classical.choose h)) + (i - offBad hP hS x₀ (Classical.choose h))) q) (fun _ => 0)
theorem tapeBad_in {i n : Nat} (h : InBad hP hS x₀ i n) (q : Question) : tapeBad hP hS x₀ i q = tapeAt hP hS (seqBad hP hS x₀ n) (drawBad hP hS (seqBad hP hS x₀ n) + (i - offBad hP hS x₀ n)) q := by
 have hx : ∃ n, InBad hP hS x₀ i n := ⟨n, h⟩
 unfold tapeBad
 rw [dif_pos hx, inBad_one hP hS x₀ (Classical.choose_spec hx) h]
theorem run_bad : ∀ n, runN P n (solo x₀.g (re x₀.w (tapeBad hP hS x₀) 0)) = .next (solo (seqBad hP hS x₀ n).g (re (seqBad hP hS x₀ n).w (tapeBad hP hS x₀) (offBad hP hS x₀ n))) := by
 intro n
 induction n with
 | zero => rfl
 | succ n ih =>
   have h1 : runN P (n + 1) (solo x₀.g (re x₀.w (tapeBad hP hS x₀) 0)) = runN P 1 (solo (seqBad hP hS x₀ n).g (re (seqBad hP hS x₀ n).w (tapeBad hP hS x₀) (offBad hP hS x₀ n))) := by rw [runN_add P n 1, ih]
   rw [h1]
   simp only [runN]
   rw [bad_spec hP hS (seqBad hP hS x₀ n) (tapeBad hP hS x₀) (offBad hP hS x₀ n) (fun i hi q => by
     rw [tapeBad_in hP hS x₀ (i := offBad hP hS x₀ n + i) (n := n) ⟨by omega, by show _ < offBad hP hS x₀ n + _; omega⟩]
     rw [Nat.add_sub_cancel_left]
     rfl)]
   rfl
include hP hS x₀ in
theorem no_bad : False := by
 obtain ⟨n, g', w', h1, h2, h3⟩ := x₀.lone (tapeBad hP hS x₀) 0
 rw [run_bad hP hS x₀ n] at h1
 simp only [Stepped.next.injEq] at h1
 obtain ⟨e1, e2⟩ := solo_inj h1
 subst e1
 subst e2
 exact (seqBad hP hS x₀ n).bad (.stop fun T d => (hS _ _ T d h3 :))
end
theorem must_of_lone (hP : TameProg P) (hS : TapeFree S) {g : Goroutine} {w : World} (ht : TameG g) (hr : g.status = .running) (hL : Lone P S g w) : Must P S g w :=
 Classical.byContradiction fun h => no_bad hP hS ⟨g, w, ht, hr, hL, h⟩
end
end Go.Bsd
