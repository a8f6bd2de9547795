/-
  The parts: base Bsd4 base Bsd5 base Bsd6
-/
import Derived.Test.YtonmcakdofbjiaaDoorV3
set_option linter.unusedVariables false
set_option linter.unusedSimpArgs false
set_option linter.unusedSectionVars false
set_option linter.unnecessarySimpa false
set_option maxRecDepth 100000
set_option maxHeartbeats 8000000
namespace Go.Bsd
open Go.Conc
def TameItem : Item -> Prop
 | .extern row _ => row = "runtime.print$piece"
 | .call _ _ _ _ => False
 | _ => True
def TameF (fr : Frame) : Prop := ∀ i ∈ fr.todo, TameItem i
def TameG (g : Goroutine) : Prop := TameF g.frame /\ ∀ c ∈ g.callers, TameF c
def MS (e : Event) : Prop := ∀ m, e.loc = .mark m -> e.sync = true
theorem runT_ms {α : Type} (P : Program) (s : Sem α) : ∀ (w : World) (es : Array Event), (∀ e ∈ es, MS e) -> ∀ e ∈ (s.runT P w es).2, MS e := by
 have push : ∀ (es : Array Event) (x : Event), (∀ e ∈ es, MS e) -> MS x -> ∀ e ∈ es.push x, MS e := fun es x h hx e he => (Array.mem_push.1 he).elim (h e) (fun e' => e' ▸ hx)
 have app : ∀ (es : Array Event) (l : List Addr) (wr sy : Bool), (∀ e ∈ es, MS e) -> ∀ e ∈ es ++ l.toArray.map (fun a => (⟨.cell a, wr, sy⟩ : Event)), MS e := fun es l wr sy h e he => (Array.mem_append.1 he).elim (h e) (fun e' => by
   obtain ⟨a, _, rfl⟩ := Array.mem_map.1 e'
   intro m hm; cases hm)
 have cell : ∀ (a : Addr) (wr sy : Bool), MS ⟨.cell a, wr, sy⟩ := fun a wr sy m hm => by cases hm
 have obj : ∀ (a : Nat) (wr sy : Bool), MS ⟨.obj a, wr, sy⟩ := fun a wr sy m hm => by cases hm
 induction s with
 | pure a => exact fun w es h => h
 | load m a k ih =>
   intro w es h
   simp only [Sem.runT]
   split
   · exact ih _ _ _ (push _ _ h (cell _ _ _))
   · split
     · exact ih _ _ _ (app _ _ _ _ h)
     · exact h
 | store m a v k ih =>
   intro w es h
   have gen : ∀ r, r = (Sem.store m a v k).runT P w es -> ∀ e ∈ r.2, MS e := by
     intro r hr
     cases v <;> simp only [Sem.runT] at hr <;> subst hr <;> first
       | exact h
       | (split
          · split
            · exact h
            · exact ih _ _ (push _ _ h (cell _ _ _))
          · split
            · exact ih _ _ (app _ _ _ _ h)
            · exact h)
   exact gen _ rfl
 | new o k ih => exact fun w es h => ih _ _ _ h
 | shape r k ih => exact fun w es h => ih _ _ _ h
 | freeze a n k ih => exact fun w es h => ih _ _ h
 | frozen a k ih => exact fun w es h => ih _ _ _ h
 | getObj r k ih =>
   intro w es h
   simp only [Sem.runT]
   split
   · exact h
   · exact ih _ _ _ (push _ _ h (obj _ _ _))
   · exact h
 | setObj r o k ih =>
   intro w es h
   simp only [Sem.runT]
   split
   · exact h
   · exact ih _ _ (push _ _ h (obj _ _ _))
   · exact h
 | choose q k ih =>
   intro w es h
   simp only [Sem.runT]
   split
   · exact ih _ _ _ h
   · exact ih _ _ _ h
 | sys c k ih => exact fun w es h => ih _ _ _ (push _ _ h (fun m hm => by cases hm))
 | program k ih => exact fun w es h => ih _ _ _ h
 | mark m k ih => exact fun w es h => ih _ _ (push _ _ h (fun m hm => rfl))
 | halt hh => exact fun w es h => h
def Bal (es : Array Event) : Prop := (∀ d, deafBehind d es = d) /\ ∀ e ∈ es, MS e
theorem bal_nil : Bal #[] := ⟨fun _ => rfl, by simp⟩
theorem bal_app {es es' : Array Event} (h : Bal es) (h' : Bal es') : Bal (es ++ es') := ⟨fun d => by rw [deafBehind_app, h.1 d, h'.1 d], fun e he => (Array.mem_append.1 he).elim (h.2 e) (h'.2 e)⟩
def dstep (d : Nat) (e : Event) : Nat := match e.loc with | .mark .disable => d + 1 | .mark .enable => d - 1 | _ => d
theorem deafBehind_fold (d : Nat) (es : Array Event) : deafBehind d es = es.toList.foldl dstep d := by
 unfold deafBehind
 rw [<- Array.foldl_toList]
 rfl
theorem bal_seen {P : Program} {fn : FuncId} {es : Array Event} (h : Bal es) : Bal (seen P fn es) := by
 have key : ∀ (l : List Event) (q : Bool) (kept : Array Event) (d : Nat), (∀ e ∈ l, MS e) -> (∀ e ∈ kept, MS e) ->
     (∀ e ∈ (l.foldl (fun (x : Bool × Array Event) e => match e.loc with
       | .mark (.extern f) => ((P.funcs[f]?).any (·.norace), x.2)
       | _ => (x.1, if x.1 && !e.sync then x.2 else x.2.push e)) (q, kept)).2, MS e) /\
     deafBehind d ((l.foldl (fun (x : Bool × Array Event) e => match e.loc with
       | .mark (.extern f) => ((P.funcs[f]?).any (·.norace), x.2)
       | _ => (x.1, if x.1 && !e.sync then x.2 else x.2.push e)) (q, kept)).2) = l.foldl dstep (deafBehind d kept) := by
   intro l
   induction l with
   | nil => exact fun q kept d _ hk => ⟨hk, rfl⟩
   | cons e l ih =>
     intro q kept d hl hk
     simp only [List.foldl_cons]
     have hl' : ∀ x ∈ l, MS x := fun x hx => hl x (List.mem_cons_of_mem _ hx)
     have he : MS e := hl e (List.mem_cons_self ..)
     have pushed : (∀ x ∈ kept.push e, MS x) := fun x hx => (Array.mem_push.1 hx).elim (hk x) (fun e' => e' ▸ he)
     have pd : deafBehind d (kept.push e) = dstep (deafBehind d kept) e := by rw [deafBehind_push]; rfl
     by_cases hx : ∃ f, e.loc = .mark (.extern f)
     · obtain ⟨f, hf⟩ := hx
       have e1 : dstep (deafBehind d kept) e = deafBehind d kept := by simp [dstep, hf]
       simp only [hf, e1]
       exact ih _ _ d hl' hk
     · have e2 : (match e.loc with
           | .mark (.extern f) => ((P.funcs[f]?).any (·.norace), kept)
           | _ => (q, if q && !e.sync then kept else kept.push e)) = (q, if q && !e.sync then kept else kept.push e) := by
         cases hc : e.loc with
         | mark m => cases m <;> first | rfl | exact absurd ⟨_, hc⟩ hx
         | _ => rfl
       rw [e2]
       by_cases hq : (q && !e.sync) = true
       · rw [if_pos hq]
         have hs : e.sync = false := by simp at hq; exact hq.2
         have e1 : dstep (deafBehind d kept) e = deafBehind d kept := by
           unfold dstep
           cases hc : e.loc with
           | mark m => rw [he m hc] at hs; cases hs
           | _ => rfl
         rw [e1]
         exact ih _ _ d hl' hk
       · rw [if_neg hq, <- pd]
         exact ih _ _ d hl' pushed
 have hh := fun d => key es.toList ((P.funcs[fn]?).any (·.norace)) #[] d (fun e he => h.2 e (Array.mem_toList_iff.1 he)) (by simp)
 have e : seen P fn es = (es.toList.foldl (fun (x : Bool × Array Event) e => match e.loc with
       | .mark (.extern f) => ((P.funcs[f]?).any (·.norace), x.2)
       | _ => (x.1, if x.1 && !e.sync then x.2 else x.2.push e)) ((P.funcs[fn]?).any (·.norace), #[])).2 := by
   unfold seen
   dsimp only
   rw [<- Array.foldl_toList]
   rfl
 rw [e]
 refine ⟨fun d => ?_, (hh 0).1⟩
 rw [(hh d).2]
 have := h.1 d
 rw [deafBehind_fold] at this
 exact this
/-! ### the step as a function of the world -/
def mapG (f : World -> World) : GStep -> GStep
 | .go g w es => .go g (f w) es
 | .comm g c b s w es => .comm g c b s (f w) es
 | .spawn g c w es => .spawn g c (f w) es
 | .count g w es => .count g (f w) es
 | .timer g op w es => .timer g op (f w) es
 | .alone g on w es => .alone g on (f w) es
 | .newcoro g c d w es => .newcoro g c d (f w) es
 | .coroswitch g c e w es => .coroswitch g c e (f w) es
 | .collect g w es => .collect g (f w) es
 | .watch g w es => .watch g (f w) es
 | .ended o w es => .ended o (f w) es
def wOf : GStep -> World
 | .go _ w _ => w
 | .comm _ _ _ _ w _ => w
 | .spawn _ _ w _ => w
 | .count _ w _ => w
 | .timer _ _ w _ => w
 | .alone _ _ w _ => w
 | .newcoro _ _ _ w _ => w
 | .coroswitch _ _ _ w _ => w
 | .collect _ w _ => w
 | .watch _ w _ => w
 | .ended _ w _ => w
def Ends (s : GStep) : Prop := ∃ o w es, s = .ended o w es
def Fit : GStep -> Prop
 | .go g _ es => TameG g /\ Bal es /\ awake g
 | .comm g _ _ _ _ es => TameG g /\ Bal es /\ awake g
 | .coroswitch g _ e _ es => e = true /\ TameG g /\ Bal es /\ awake g
 | .spawn _ _ _ _ | .ended _ _ _ => True
 | _ => False
def Nice (F : World -> GStep) : Prop :=
 ∀ w, Ends (F w) \/ (Fit (F w) /\ ∃ n, (wOf (F w)).tape = w.tape /\ (wOf (F w)).drawn = w.drawn + n /\ ∀ T d, Follows w n T d -> F (re w T d) = mapG (fun w' => re w' T (d + n)) (F w))
theorem nice_ended (o : Outcome) : Nice (fun w => .ended o w) := fun w => .inl ⟨_, _, _, rfl⟩
theorem nice_go {g : Goroutine} (h : TameG g) (ha : awake g := by intro t; simp) : Nice (fun w => .go g w) := fun w => .inr ⟨⟨h, bal_nil, ha⟩, 0, rfl, rfl, fun _ _ _ => rfl⟩
theorem nice_comm {g : Goroutine} (h : TameG g) (c : Array CommCase) (b : Bool) (s : CommShape) (ha : awake g := by intro t; simp) : Nice (fun w => .comm g c b s w) := fun w => .inr ⟨⟨h, bal_nil, ha⟩, 0, rfl, rfl, fun _ _ _ => rfl⟩
theorem nice_coro {g : Goroutine} (h : TameG g) (c : Nat) {e : Bool} (he : e = true) (ha : awake g := by intro t; simp) : Nice (fun w => .coroswitch g c e w) := fun w => .inr ⟨⟨he, h, bal_nil, ha⟩, 0, rfl, rfl, fun _ _ _ => rfl⟩
theorem nice_spawn (g c : Goroutine) : Nice (fun w => .spawn g c w) := fun w => .inr ⟨trivial, 0, rfl, rfl, fun _ _ _ => rfl⟩
theorem fit_after {es : Array Event} (he : Bal es) {s : GStep} (h : Fit s) : Fit (GStep.after es s) := by
 cases s <;> first | exact ⟨h.1, bal_app he h.2.1, h.2.2⟩ | exact ⟨h.1, h.2.1, bal_app he h.2.2.1, h.2.2.2⟩ | exact h
theorem mapG_after (f : World -> World) (es : Array Event) (s : GStep) : mapG f (GStep.after es s) = GStep.after es (mapG f s) := by cases s <;> rfl
theorem wOf_after (es : Array Event) (s : GStep) : wOf (GStep.after es s) = wOf s := by cases s <;> rfl
theorem nice_after {F : World -> GStep} {es : Array Event} (he : Bal es) (h : Nice F) : Nice (fun w => GStep.after es (F w)) := by
 intro w
 rcases h w with ⟨o, w', es', e⟩ | ⟨hf, n, h1, h2, h3⟩
 · exact .inl ⟨o, w', es ++ es', by simp only [e]; rfl⟩
 · exact .inr ⟨fit_after he hf, n, by rw [wOf_after]; exact h1, by rw [wOf_after]; exact h2, fun T d hT => by rw [mapG_after, <- h3 T d hT]⟩
def withW {α : Type} (r : Result α) (w : World) : Result α := mapW (fun _ => w) r
theorem withW_self {α : Type} (r : Result α) : withW r (worldOf r) = r := by cases r <;> rfl
theorem withW_map {α : Type} (r : Result α) (f : World -> World) : withW r (f (worldOf r)) = mapW f r := by cases r <;> rfl
theorem nice_sem {α : Type} {P : Program} {post : α -> Prop} {s : Sem α} (hs : Safe P post 0 s) (K : Result α -> Array Event -> GStep)
   (hok : ∀ a es, post a -> Bal es -> Nice (fun w => K (.ok a w) es))
   (hend : ∀ h w es, endsRun h -> Ends (K (.halt h w) es))
   (hh : ∀ h es, (goesOn h -> Bal es) -> ¬ endsRun h -> (∀ m, h ≠ .fatal m) -> Nice (fun w => K (.halt h w) es)) : Nice (fun w => K (s.runT P w #[]).1 (s.runT P w #[]).2) := by
 intro w
 have hms := runT_ms P s w #[] (by simp)
 have hd := fun d => Safe.deaf s hs w #[] d d rfl
 rcases Safe.local s hs w #[] with ⟨h, w', es', he, e⟩ | ⟨n, h1, h2, h3⟩
 · left
   simp only [e]
   exact hend h w' es' he
 · simp only []
   cases hr : s.runT P w #[] with
   | mk r es =>
     rw [hr] at h1 h2 h3 hms
     have fin : Nice (fun w' => K (withW r w') es) \/ Ends (K r es) := by
       cases r with
       | ok a w' => exact .inl (hok a es ((hd 0).1 a w' es hr).1 ⟨fun d => ((hd d).1 a w' es hr).2, hms⟩)
       | halt h w' =>
         by_cases he : endsRun h
         · exact .inr (hend h w' es he)
         · exact .inl (hh h es (fun hg => ⟨fun d => ((hd d).2 h w' es hr).2 hg, hms⟩) he ((hd 0).2 h w' es hr).1)
     rcases fin with fin | fin
     · have fw := fin (worldOf r)
       simp only [withW_self] at fw
       rcases fw with x | ⟨hf, m, g1, g2, g3⟩
       · exact .inl x
       · right
         refine ⟨hf, n + m, g1.trans h1, by rw [g2]; simp only at h2; rw [h2]; omega, fun T d hT => ?_⟩
         obtain ⟨f1, f2⟩ := hT.split (worldOf r) h1 h2
         rw [h3 T d f1, <- Nat.add_assoc]
         have := g3 T (d + n) f2
         rw [withW_map r (fun w' => re w' T (d + n))] at this
         exact this
     · exact .inl fin
end Go.Bsd
namespace Go.Bsd
open Go.Conc
theorem nice_congr {F G : World -> GStep} (e : ∀ w, F w = G w) (h : Nice G) : Nice F := by
 have : F = G := funext e
 rw [this]; exact h
section
variable {P : Program}
theorem nice_run {α : Type} {post : α -> Prop} {s : Sem α} (hs : Safe P post 0 s) {F : World -> GStep} (K : Result α -> Array Event -> GStep) (hF : ∀ w, F w = K (s.runT P w #[]).1 (s.runT P w #[]).2)
   (hok : ∀ a es, post a -> Bal es -> Nice (fun w => K (.ok a w) es)) (hend : ∀ h w es, endsRun h -> Ends (K (.halt h w) es))
   (hh : ∀ h es, (goesOn h -> Bal es) -> ¬ endsRun h -> (∀ m, h ≠ .fatal m) -> Nice (fun w => K (.halt h w) es)) : Nice F := nice_congr hF (nice_sem hs K hok hend hh)
def NiceAt (F : World -> GStep) (w : World) : Prop :=
 Ends (F w) \/ (Fit (F w) /\ ∃ n, (wOf (F w)).tape = w.tape /\ (wOf (F w)).drawn = w.drawn + n /\ ∀ T d, Follows w n T d -> F (re w T d) = mapG (fun w' => re w' T (d + n)) (F w))
theorem comp_at {F : World -> GStep} {w w' : World} {n : Nat} {G : World -> GStep} (hG : Nice G) (hw : w'.tape = w.tape) (hd : w'.drawn = w.drawn + n) (e : F w = G w') (e2 : ∀ T d, Follows w n T d -> F (re w T d) = G (re w' T (d + n))) : NiceAt F w := by
 unfold NiceAt
 rw [e]
 rcases hG w' with h | ⟨hf, m, h1, h2, h3⟩
 · exact .inl h
 · refine .inr ⟨hf, n + m, h1.trans hw, by rw [h2, hd]; omega, fun T d hT => ?_⟩
   obtain ⟨f1, f2⟩ := hT.split w' hw hd
   rw [e2 T d f1, <- Nat.add_assoc]
   exact h3 T (d + n) f2
theorem nice_of {F : World -> GStep} (h : ∀ w, NiceAt F w) : Nice F := h
theorem ends_at {F : World -> GStep} {w : World} (h : Ends (F w)) : NiceAt F w := .inl h
theorem point {α : Type} {post : α -> Prop} {s : Sem α} {w : World} {x : Result α × Array Event} (hr : s.runT P w #[] = x) (hs : Safe P post 0 s) :
   (∃ h w' es, endsRun h /\ x = (.halt h w', es)) \/
   ((∀ a w', x.1 = .ok a w' -> post a /\ Bal x.2) /\ (∀ h w', x.1 = .halt h w' -> (∀ m, h ≠ .fatal m) /\ (goesOn h -> Bal x.2)) /\
     ∃ n, (worldOf x.1).tape = w.tape /\ (worldOf x.1).drawn = w.drawn + n /\ ∀ T d, Follows w n T d -> s.runT P (re w T d) #[] = (mapW (fun w' => re w' T (d + n)) x.1, x.2)) := by
 subst hr
 rcases Safe.local s hs w #[] with ⟨h, w', es', he, e⟩ | h
 · exact .inl ⟨h, w', es', he, e⟩
 · have hms := runT_ms P s w #[] (by simp)
   refine .inr ⟨fun a w' e => ?_, fun hh w' e => ?_, h⟩
   · have hd := fun d => (Safe.deaf s hs w #[] d d rfl).1 a w' (s.runT P w #[]).2 (by rw [<- e])
     exact ⟨(hd 0).1, fun d => (hd d).2, hms⟩
   · have hd := fun d => (Safe.deaf s hs w #[] d d rfl).2 hh w' (s.runT P w #[]).2 (by rw [<- e])
     exact ⟨(hd 0).1, fun hg => ⟨fun d => (hd d).2 hg, hms⟩⟩
theorem any_sys {α : Type} (c : Sys) {k : SysRet -> Sem α} (h1 : ∃ h, endsRun h /\ k .wouldBlock = .halt h) (h2 : ∀ r, Any P (k r)) : Any P (sys c >>= k) := ⟨h1, fun r _ => h2 r⟩
theorem any_held {k : Unit -> Sem Unit} (b : Bool) (hk : Any P (k ())) : Any P (mark .disable >>= fun _ => Extern.PrintPieces.held >>= fun d => if d = true then ((Sem.halt .blocked : Sem Unit) >>= fun _ => if b = true then (program >>= fun p => store (printLock p) (.bool true) .atomic >>= fun _ => mark .enable >>= k) else mark .enable >>= k) else if b = true then (program >>= fun p => store (printLock p) (.bool true) .atomic >>= fun _ => mark .enable >>= k) else mark .enable >>= k) := by
 refine .inl ⟨rfl, fun v => ?_⟩
 cases v <;> try exact ⟨by simp, .inr ⟨by simp, by simp, by simp⟩⟩
 rename_i d
 cases d
 · cases b
   · exact .inr (.inl ⟨rfl, 0, rfl, hk⟩)
   · exact .inr (.inl ⟨rfl, 0, rfl, hk⟩)
 · exact ⟨by simp, .inr ⟨by simp, by simp, by simp⟩⟩
theorem nice_writeOn {fr : Frame} (h : TameF fr) (dy : Dying) (f : Fatal) : Nice (fun w => writeOn P fr dy f w) := by
 intro w
 unfold writeOn
 dsimp only
 split
 · exact .inl ⟨_, _, _, rfl⟩
 · rename_i piece rest _
   generalize hr : Sem.runT P _ w #[] = x
   have hp := point (post := fun _ => True) hr (by
     have fin : ∀ {k : SysRet -> Sem Unit} (_ : ∃ h, endsRun h /\ k .wouldBlock = .halt h) (_ : ∀ r, Any P (k r)), Any P (if piece.size > 65536 then do unsupported (.noEntry "a report of more than 65536 bytes"); (sys (.write 2 piece) >>= k) else (sys (.write 2 piece) >>= k)) := by
       intro k h1 h2
       split
       · exact any_bind (any_unsupported _) fun _ => any_sys _ h1 h2
       · exact any_sys _ h1 h2
     have all : ∀ r : SysRet, Any P (match r with | .int n => if n != piece.size then unsupported (.noEntry "a report that its descriptor cannot take whole") else pure () | .err _ => pure () | _ => unsupported (.noEntry "a report that its descriptor cannot take whole") : Sem Unit) := by
       intro r
       repeat' first | (simp; done) | split
     split
     · exact any_held f.whole (fin ⟨.unsupported (.noEntry "a report that its descriptor cannot take whole"), trivial, rfl⟩ all)
     · exact fin ⟨.unsupported (.noEntry "a report that its descriptor cannot take whole"), trivial, rfl⟩ all)
   rcases hp with ⟨hh, w', es, he, rfl⟩ | ⟨h1, h2, n, h3, h4, h5⟩
   · left
     cases hh <;> first | exact he.elim | exact ⟨_, _, _, rfl⟩ | (rename_i u; cases u <;> exact ⟨_, _, _, rfl⟩)
   · obtain ⟨r, es⟩ := x
     simp only at h1 h2 h3 h4 h5
     cases r with
     | ok a w' => exact .inr ⟨⟨⟨h, by simp⟩, (h1 a w' rfl).2, by intro t; simp⟩, n, h3, h4, fun T d hT => by rw [h5 T d hT]; rfl⟩
     | halt hh w' =>
       cases hh with
       | blocked => exact .inr ⟨⟨⟨h, by simp⟩, bal_nil, by intro t; simp⟩, n, h3, h4, fun T d hT => by rw [h5 T d hT]; rfl⟩
       | unsupported u => exact .inl ⟨_, _, _, rfl⟩
       | panic v => exact .inl ⟨_, _, _, rfl⟩
       | waiting => exact .inl ⟨_, _, _, rfl⟩
       | exit c => exact .inl ⟨_, _, _, rfl⟩
       | fatal m => exact .inl ⟨_, _, _, rfl⟩
       | throw m => exact .inl ⟨_, _, _, rfl⟩
       | goexit => exact .inl ⟨_, _, _, rfl⟩
       | stuck m => exact .inl ⟨_, _, _, rfl⟩
end
attribute [local irreducible] Safe
/-! ### frames -/
theorem tame_finish {fr : Frame} (h : TameF fr) (v : Value) : TameF (fr.finish v) := by
 unfold Frame.finish
 have hd : ∀ {x : Item} {k : List Item}, fr.todo = x :: k -> (∀ i ∈ k, TameItem i) := fun e i hi => h i (by rw [e]; exact List.mem_cons_of_mem _ hi)
 split
 · rename_i ops i rest k e
   intro x hx
   rcases List.mem_cons.1 hx with rfl | hx
   · trivial
   · exact hd e x hx
 · rename_i l k e
   intro x hx
   rcases List.mem_cons.1 hx with rfl | hx
   · trivial
   · exact hd e x hx
 · rename_i k e
   exact fun x hx => hd e x hx
 · rename_i d wr res sv k e
   exact False.elim (h (.call d wr res sv) (by rw [e]; exact List.mem_cons_self ..))
 · rename_i r a k e
   exact fun x hx => hd e x hx
 · exact h
theorem tame_raise {fr : Frame} (h : TameF fr) (vs : List PanicEntry) : TameF (fr.raise vs) := by
 unfold Frame.raise
 split <;> exact h
theorem tame_enter (P : Program) (f : FuncId) (args : Array Value) (k : CallKind) : TameF (Frame.enter P f args k) := by
 intro i hi
 simp only [Frame.enter, List.mem_singleton] at hi
 subst hi
 trivial
theorem tame_round (l : Nat) (f : FuncId) (t : Array Value) (a b : Code) (k : CallKind) : TameF (Frame.round l f t a b k) := by
 intro i hi
 simp only [Frame.round, List.mem_cons, List.not_mem_nil, or_false] at hi
 rcases hi with rfl | rfl | rfl <;> trivial
theorem tame_recover : ∀ (cs : List Frame) (fr : Frame) (v : Value) (cs' : List Frame), (∀ c ∈ cs, TameF c) -> tryRecover fr cs = some (v, cs') -> ∀ c ∈ cs', TameF c
 | [], fr, v, cs', _, h => by
   unfold tryRecover at h
   split at h <;> simp_all
 | c :: cs, fr, v, cs', hc, h => by
   unfold tryRecover at h
   split at h
   · rename_i caller rest hk he
     cases he
     split at h
     · cases h
       intro x hx
       rcases List.mem_cons.1 hx with rfl | hx
       · exact hc c (List.mem_cons_self ..)
       · exact hc x (List.mem_cons_of_mem _ hx)
     · cases h
   · rename_i wrapper rest hk he
     cases he
     cases hr : tryRecover c cs with
     | none => rw [hr] at h; cases h
     | some y =>
       rw [hr] at h
       cases h
       intro x hx
       rcases List.mem_cons.1 hx with rfl | hx
       · exact hc x (List.mem_cons_self ..)
       · exact tame_recover cs c y.1 y.2 (fun c hh => hc c (List.mem_cons_of_mem _ hh)) hr x hx
   · cases h
theorem tame_recoverLoop : ∀ (cs : List Frame) (l : Nat) (v : Value) (cs' : List Frame), (∀ c ∈ cs, TameF c) -> tryRecoverLoop l cs = some (v, cs') -> ∀ c ∈ cs', TameF c
 | [], l, v, cs', _, h => by cases h
 | c :: cs, l, v, cs', hc, h => by
   unfold tryRecoverLoop at h
   have hr : ∀ c ∈ cs, TameF c := fun c hh => hc c (List.mem_cons_of_mem _ hh)
   have fin : ∀ o : Option (Value × List Frame), (∀ v cs', o = some (v, cs') -> ∀ c ∈ cs', TameF c) -> (o.map fun (v, rest) => (v, c :: rest)) = some (v, cs') -> ∀ c ∈ cs', TameF c := by
     intro o ho e
     cases o with
     | none => cases e
     | some y =>
       cases e
       intro x hx
       rcases List.mem_cons.1 hx with rfl | hx
       · exact hc x (List.mem_cons_self ..)
       · exact ho y.1 y.2 rfl x hx
   refine fin _ (fun v cs' e => ?_) h
   split at e
   · exact tame_recoverLoop cs _ v cs' hr e
   · split at e
     · exact tame_recover cs c v cs' hr e
     · exact tame_recoverLoop cs _ v cs' hr e
   · exact tame_recoverLoop cs _ v cs' hr e
theorem tame_exitTo (id : Nat) : ∀ (k k' : List Item), (∀ i ∈ k, TameItem i) -> exitTo id k = some k' -> ∀ i ∈ k', TameItem i
 | [], k', _, h => by cases h
 | x :: k, k', hk, h => by
   have hk2 : ∀ i ∈ k, TameItem i := fun i hi => hk i (List.mem_cons_of_mem _ hi)
   unfold exitTo at h
   split at h
   · rename_i id' k2 e
     cases e
     split at h
     · cases h; exact hk2
     · exact tame_exitTo id k k' hk2 h
   · rename_i k2 _ e
     cases e
     exact tame_exitTo id k k' hk2 h
   · rename_i e; cases e
theorem tame_gotoIn (l : Nat) : ∀ (k k' : List Item), (∀ i ∈ k, TameItem i) -> gotoIn l k = some k' -> ∀ i ∈ k', TameItem i
 | [], k', _, h => by cases h
 | x :: k, k', hk, h => by
   have hk2 : ∀ i ∈ k, TameItem i := fun i hi => hk i (List.mem_cons_of_mem _ hi)
   unfold gotoIn at h
   split at h
   · rename_i body k2 e
     cases e
     split at h
     · cases h
       intro i hi
       rcases List.mem_cons.1 hi with rfl | hi
       · trivial
       · rcases List.mem_cons.1 hi with rfl | hi
         · trivial
         · exact hk2 i hi
     · exact tame_gotoIn l k k' hk2 h
   · rename_i k2 _ e
     cases e
     exact tame_gotoIn l k k' hk2 h
   · rename_i e; cases e
/-! ### ends of a run -/
theorem nice_dieOf {fr : Frame} (h : TameF fr) (a : List ByteArray) (m : String) (b : Bool) : Nice (fun w => dieOf fr a m b w) := nice_go ⟨h, by simp⟩
theorem nice_throw {fr : Frame} (h : TameF fr) (m : String) : Nice (fun w => endThrow fr m w) := nice_dieOf h _ _ _
theorem nice_printing {P : Program} {fr : Frame} (h : TameF fr) (v : Value) : Nice (fun w => endPrinting P fr v w) := by
 unfold endPrinting
 dsimp only
 split
 · exact nice_throw h _
 · exact nice_ended _
theorem any_withAddress {P : Program} (s : ByteArray) : Any P (withAddress s) := any_bind (any_choose _) fun _ => any_pure _
theorem any_reportChain {P : Program} : ∀ (l : List PanicEntry) (b : Bool), Any P (reportChain l b)
 | [], b => any_pure _
 | e :: l, b => by
   unfold reportChain
   have ih := fun b => any_reportChain (P := P) l b
   repeat' first | (with_reducible refine any_bind ?_ (fun _ => ?_)) | (simp; done) | exact ih _ | (split) | (with_reducible intro _) | (dsimp only)
section
variable {P : Program}
theorem run_eq {α : Type} (s : Sem α) (w : World) : s.run P w = (s.runT P w #[]).1 := (Sem.runT_fst P s w #[]).symm
theorem nice_die {fr : Frame} (hP : TameProg P) (h : TameF fr) (dy : Dying) : Nice (fun w => die P fr dy w) := by
 unfold die
 split
 · exact nice_writeOn h _ _
 · split
   · intro w
     dsimp only
     by_cases hl : printLockHeld P w = true
     · refine .inr ?_
       rw [if_pos hl]
       refine ⟨⟨⟨h, by simp⟩, bal_nil, by intro t; simp⟩, 0, rfl, rfl, fun T d _ => ?_⟩
       have : printLockHeld P (re w T d) = true := hl
       rw [if_pos this]; rfl
     · left
       rw [if_neg hl]
       unfold endWith
       dsimp only
       split
       · split <;> exact ⟨_, _, _, rfl⟩
       · exact ⟨_, _, _, rfl⟩
       · exact ⟨_, _, _, rfl⟩
   · rename_i v mk rest _
     dsimp only
     split
     · exact nice_go ⟨h, by simp⟩
     · rename_i s _
       exact nice_run (P := P) (any_withAddress s) (fun r _ => match r with
         | .ok s w => GStep.go { frame := fr, callers := [], status := .running, dying := some { dy with todo := rest, pending := mk, texts := (s, mk) :: dy.texts } } w
         | .halt _ w => .ended (.stuck "report: an address" "") w) (fun w => by rw [run_eq]; rfl)
         (fun a es _ _ => nice_go ⟨h, by simp⟩) (fun hh w es _ => ⟨_, _, _, rfl⟩) (fun hh es _ _ _ => nice_ended _)
     · rename_i t recv name _
       refine nice_of fun w => ?_
       obtain ⟨x, hr⟩ : ∃ x, Sem.runT P (invoke (.fn (.method name) #[]) #[.iface t recv]) w #[] = x := ⟨_, rfl⟩
       rcases point hr (okN_invoke hP (.fn (.method name) #[]) #[.iface t recv]) with ⟨hh, w', es, he, rfl⟩ | ⟨h1, h2, n, h3, h4, h5⟩
       · refine ends_at ?_
         rw [hr]
         cases hh <;> first | exact he.elim | exact ⟨_, _, _, rfl⟩
       · obtain ⟨r, es⟩ := x
         simp only at h1 h2 h3 h4 h5
         cases r with
         | ok a w' =>
           have hb := (h1 a w' rfl).2
           cases a with
           | enter f args => exact comp_at (nice_after (bal_seen hb) (nice_go (g := { frame := Frame.enter P f args .report, callers := [], status := .running, dying := some { dy with todo := rest, pending := mk, calling := true, hand := some v } }) ⟨tame_enter P f args .report, by simp⟩)) h3 h4 (by rw [hr]; rfl) (fun T d hT => by rw [h5 T d hT]; rfl)
           | value v' =>
             cases v' with
             | string s => exact comp_at (nice_after (bal_seen hb) (nice_go (g := { frame := fr, callers := [], status := .running, dying := some { dy with todo := rest, pending := mk, texts := (s, mk) :: dy.texts } }) ⟨h, by simp⟩)) h3 h4 (by rw [hr]; rfl) (fun T d hT => by rw [h5 T d hT]; rfl)
             | _ => exact ends_at (by rw [hr]; exact ⟨_, _, _, rfl⟩)
           | _ => exact ends_at (by rw [hr]; exact ⟨_, _, _, rfl⟩)
         | halt hh w' =>
           cases hh with
           | panic v' => exact comp_at (nice_after (bal_seen ((h2 _ w' rfl).2 trivial)) (nice_printing h v')) h3 h4 (by rw [hr]; rfl) (fun T d hT => by rw [h5 T d hT]; rfl)
           | _ => exact ends_at (by rw [hr]; exact ⟨_, _, _, rfl⟩)
     · exact nice_ended _
end
end Go.Bsd
namespace Go.Bsd
open Go.Conc
attribute [local irreducible] Safe
section
variable {P : Program}
theorem found_re (w : World) (T : Nat -> Question -> Nat) (d : Nat) : ∀ (n : Nat) (f : FuncId), P.found (re w T d) n f = P.found w n f := by
 intro n
 induction n with
 | zero => intro f; rfl
 | succ n ih =>
   intro f
   unfold Program.found
   simp only [ih, re_heap]
   rfl
theorem brought_re (w : World) (T : Nat -> Question -> Nat) (d : Nat) : ∀ (n : Nat) (todo seen : List FuncId), P.brought (re w T d) n todo seen = P.brought w n todo seen := by
 intro n
 induction n with
 | zero => intro t s; rfl
 | succ n ih =>
   intro t s
   cases t with
   | nil => rfl
   | cons f t =>
     unfold Program.brought
     simp only [ih, re_heap]
theorem if_same {F : World -> GStep} {w : World} {c : World -> Bool} (hc : ∀ T d, c (re w T d) = c w) {A B : World -> GStep} (e : ∀ w, F w = if c w = true then A w else B w) (hA : NiceAt A w) (hB : NiceAt B w) : NiceAt F w := by
 have go : ∀ b, c w = b -> NiceAt F w := by
   intro b hb
   cases b with
   | true =>
     have e1 : F w = A w := by rw [e, if_pos hb]
     have e2 : ∀ T d, F (re w T d) = A (re w T d) := fun T d => by rw [e, if_pos (by rw [hc]; exact hb)]
     unfold NiceAt
     simp only [e1, e2]
     exact hA
   | false =>
     have hn : ¬ c w = true := by rw [hb]; simp
     have e1 : F w = B w := by rw [e, if_neg hn]
     have e2 : ∀ T d, F (re w T d) = B (re w T d) := fun T d => by rw [e, if_neg (by rw [hc]; exact hn)]
     unfold NiceAt
     simp only [e1, e2]
     exact hB
 exact go _ rfl
theorem nice_early {fr : Frame} {cs : List Frame} (hf : TameF fr) (hc : ∀ c ∈ cs, TameF c) (dy : Option Dying) (g : Nat) : Nice (fun w => early P fr cs dy g w) := by
 have notYet : Nice (fun w => (match w.heap[g]? with
   | some (.pending c elem) => GStep.go { frame := fr, callers := cs, status := .running, dying := dy } { w with heap := w.heap.setIfInBounds g (.cells c elem) }
   | _ => .ended (.stuck "early: the variable does not wait" (fr.pos P)) w)) := by
   refine nice_of fun w => ?_
   cases hx : w.heap[g]? with
   | none => exact ends_at (by rw [hx]; exact ⟨_, _, _, rfl⟩)
   | some o =>
     cases o with
     | pending c elem =>
       exact comp_at (n := 0) (w' := { w with heap := w.heap.setIfInBounds g (.cells c elem) }) (nice_go (g := { frame := fr, callers := cs, status := .running, dying := dy }) ⟨hf, hc⟩) rfl rfl (by rw [hx]) (fun T d _ => by rw [re_heap, hx]; try rfl)
     | _ => exact ends_at (by rw [hx]; exact ⟨_, _, _, rfl⟩)
 unfold early
 dsimp only
 split
 · exact notYet
 · split
   · exact nice_ended _
   · rename_i f _
     have there : Nice (fun w => GStep.go { frame := Frame.enter P f #[] .early, callers := (if ((P.code? f).any P.plainData) = true then (P.brought w (2 * P.funcs.size + 1) [f] []).drop 1 else []).map (Frame.enter P · #[] .early) ++ fr :: cs, status := .running, dying := dy } w) := by
       refine nice_of fun w => ?_
       refine comp_at (n := 0) (w' := w) (nice_go (g := { frame := Frame.enter P f #[] .early, callers := (if ((P.code? f).any P.plainData) = true then (P.brought w (2 * P.funcs.size + 1) [f] []).drop 1 else []).map (Frame.enter P · #[] .early) ++ fr :: cs, status := .running, dying := dy }) ⟨tame_enter P f #[] .early, ?_⟩) rfl rfl rfl (fun T d _ => by simp only [brought_re]; try rfl)
       intro c hcm
       rcases List.mem_append.1 hcm with h | h
       · obtain ⟨x, _, rfl⟩ := List.mem_map.1 h
         exact tame_enter P x #[] .early
       · rcases List.mem_cons.1 h with rfl | h
         · exact hf
         · exact hc c h
     split
     · exact notYet
     · refine nice_of fun w => ?_
       refine if_same (c := fun w => (((P.code? f).bind fun c => (readies c).getLast?).bind w.shape?).isSome) (fun T d => rfl) (fun w => rfl) (notYet w) ?_
       cases hfo : P.found w P.funcs.size f with
       | unknown => exact ends_at (by rw [hfo]; exact ⟨_, _, _, rfl⟩)
       | notYet =>
         cases hk : (fr.kind == CallKind.early) with
         | true => exact ends_at (by rw [hfo]; exact ⟨_, _, _, rfl⟩)
         | false => exact comp_at (n := 0) (w' := w) notYet rfl rfl (by rw [hfo]; try rfl) (fun T d _ => by rw [found_re, hfo]; try rfl)
       | either =>
         cases hk : (fr.kind == CallKind.early) with
         | true => exact comp_at (n := 0) (w' := w) there rfl rfl (by rw [hfo]; try rfl) (fun T d _ => by rw [found_re, hfo]; try rfl)
         | false =>
           have rest : Nice (fun w => if ((P.code? f).any P.plainData) = true then GStep.go { frame := Frame.enter P f #[] .early, callers := (if ((P.code? f).any P.plainData) = true then (P.brought w (2 * P.funcs.size + 1) [f] []).drop 1 else []).map (Frame.enter P · #[] .early) ++ fr :: cs, status := .running, dying := dy } w
               else if (!(P.code? f).any P.bareCopy) = true then (match w.heap[g]? with
                 | some (.pending c elem) => GStep.go { frame := fr, callers := cs, status := .running, dying := dy } { w with heap := w.heap.setIfInBounds g (.cells c elem) }
                 | _ => .ended (.stuck "early: the variable does not wait" (fr.pos P)) w)
               else match (choose (.early g)).run P w with
                 | .ok 0 w => (match w.heap[g]? with
                   | some (.pending c elem) => GStep.go { frame := fr, callers := cs, status := .running, dying := dy } { w with heap := w.heap.setIfInBounds g (.cells c elem) }
                   | _ => .ended (.stuck "early: the variable does not wait" (fr.pos P)) w)
                 | .ok _ w => GStep.go { frame := Frame.enter P f #[] .early, callers := (if ((P.code? f).any P.plainData) = true then (P.brought w (2 * P.funcs.size + 1) [f] []).drop 1 else []).map (Frame.enter P · #[] .early) ++ fr :: cs, status := .running, dying := dy } w
                 | .halt _ w => .ended (.stuck "early" (fr.pos P)) w) := by
             by_cases hpd : ((P.code? f).any P.plainData) = true
             · exact nice_congr (fun w => if_pos hpd) there
             · refine nice_congr (fun w => if_neg hpd) ?_
               by_cases hbc : (!(P.code? f).any P.bareCopy) = true
               · exact nice_congr (fun w => if_pos hbc) notYet
               · refine nice_congr (fun w => if_neg hbc) ?_
                 refine nice_of fun w => ?_
                 rcases point (w := w) rfl (any_choose (P := P) (.early g)) with ⟨hh, w', es, he, e⟩ | ⟨h1, h2, n, h3, h4, h5⟩
                 · exact ends_at (by rw [run_eq, e]; exact ⟨_, _, _, rfl⟩)
                 · cases hr : ((choose (.early g)).runT P w #[]).1 with
                   | halt hh w' => exact ends_at (by rw [run_eq, hr]; exact ⟨_, _, _, rfl⟩)
                   | ok a w' =>
                     rw [hr] at h3 h4 h5
                     cases a with
                     | zero => exact comp_at notYet h3 h4 (by rw [run_eq, hr]; try rfl) (fun T d hT => by rw [run_eq, h5 T d hT]; try rfl)
                     | succ a => exact comp_at there h3 h4 (by rw [run_eq, hr]; try rfl) (fun T d hT => by rw [run_eq, h5 T d hT]; try rfl)
           exact comp_at (n := 0) (w' := w) rest rfl rfl (by rw [hfo]; try rfl) (fun T d _ => by rw [found_re, hfo]; try rfl)
theorem bal_early {es : Array Event} (h : Bal es) (k : CallKind) : Bal (if (k == CallKind.early) = true then #[] else es) := by split <;> first | exact bal_nil | exact h
theorem nice_apply {s : Sem Next} (hs : OkN P s) {fr : Frame} {cs : List Frame} (hf : TameF fr) (hc : ∀ c ∈ cs, TameF c) (dy : Option Dying) : Nice (fun w => stepG.apply P true fr cs dy s w) := by
 refine nice_of fun w => ?_
 obtain ⟨x, hr⟩ : ∃ x, s.runT P w #[] = x := ⟨_, rfl⟩
 have hcc : ∀ c ∈ fr :: cs, TameF c := fun c h => (List.mem_cons.1 h).elim (fun e => e ▸ hf) (hc c)
 rcases point hr hs with ⟨hh, w', es, he, rfl⟩ | ⟨h1, h2, n, h3, h4, h5⟩
 · refine ends_at ?_
   unfold stepG.apply
   simp only [if_true, hr]
   cases hh with
   | unsupported u => cases u <;> first | exact he.elim | exact ⟨_, _, _, rfl⟩
   | stuck m => exact ⟨_, _, _, rfl⟩
   | _ => exact he.elim
 · obtain ⟨r, es⟩ := x
   simp only at h1 h2 h3 h4 h5
   cases r with
   | ok a w' =>
     obtain ⟨hpost, hb⟩ := h1 a w' rfl
     have hb' := bal_seen (P := P) (fn := fr.fn) (bal_early hb fr.kind)
     have go : ∀ (g : Goroutine), TameG g -> g.status = .running -> (∀ w w', s.runT P w #[] = (.ok a w', es) -> stepG.apply P true fr cs dy s w = GStep.after (seen P fr.fn (if (fr.kind == CallKind.early) = true then #[] else es)) (.go g w')) -> NiceAt (fun w => stepG.apply P true fr cs dy s w) w := fun g hg hst e =>
       comp_at (nice_after hb' (nice_go hg (by intro t; rw [hst]; simp))) h3 h4 (e w w' hr) (fun T d hT => e _ _ (h5 T d hT))
     cases a with
     | value v => exact go { frame := fr.finish v, callers := cs, status := .running, dying := dy } ⟨tame_finish hf v, hc⟩ rfl (fun w w' e => by unfold stepG.apply; simp only [if_true, e]; try rfl)
     | skip => exact go { frame := fr.finish undef, callers := cs, status := .running, dying := dy } ⟨tame_finish hf _, hc⟩ rfl (fun w w' e => by unfold stepG.apply; simp only [if_true, e]; try rfl)
     | enter f args => exact go { frame := Frame.enter P f args (match fr.todo with | .call _ true _ _ :: _ => .wrapped | _ => .normal), callers := fr :: cs, status := .running, dying := dy } ⟨tame_enter _ _ _ _, hcc⟩ rfl (fun w w' e => by unfold stepG.apply; simp only [if_true, e]; try rfl)
     | round l f t as bd => exact go { frame := Frame.round l f t as bd .normal, callers := fr :: cs, status := .running, dying := dy } ⟨tame_round _ _ _ _ _ _, hcc⟩ rfl (fun w w' e => by unfold stepG.apply; simp only [if_true, e]; try rfl)
     | defer d => exact go { frame := { fr with defers := d :: fr.defers }.finish undef, callers := cs, status := .running, dying := dy } ⟨tame_finish (fr := { fr with defers := d :: fr.defers }) hf _, hc⟩ rfl (fun w w' e => by unfold stepG.apply; simp only [if_true, e]; try rfl)
     | recover =>
       cases hro : fr.roundOf with
       | none =>
         cases hrec : tryRecover fr cs with
         | none => exact go { frame := fr.finish .nilIface, callers := cs, status := .running, dying := dy } ⟨tame_finish hf _, hc⟩ rfl (fun w w' e => by unfold stepG.apply; simp only [if_true, e, hro, hrec]; try rfl)
         | some y => exact go { frame := fr.finish y.1, callers := y.2, status := .running, dying := dy } ⟨tame_finish hf _, tame_recover cs fr y.1 y.2 hc hrec⟩ rfl (fun w w' e => by unfold stepG.apply; simp only [if_true, e, hro, hrec]; try rfl)
       | some l =>
         by_cases hfol : P.follows .rangeFuncRecover = true
         · cases hrec : tryRecover fr cs with
           | none => exact go { frame := fr.finish .nilIface, callers := cs, status := .running, dying := dy } ⟨tame_finish hf _, hc⟩ rfl (fun w w' e => by unfold stepG.apply; simp only [if_true, e, hro, hfol, hrec]; try rfl)
           | some y => exact go { frame := fr.finish y.1, callers := y.2, status := .running, dying := dy } ⟨tame_finish hf _, tame_recover cs fr y.1 y.2 hc hrec⟩ rfl (fun w w' e => by unfold stepG.apply; simp only [if_true, e, hro, hfol, hrec]; try rfl)
         · have hfol' : P.follows .rangeFuncRecover = false := by simpa using hfol
           cases hrec : tryRecoverLoop l cs with
           | none => exact go { frame := fr.finish .nilIface, callers := cs, status := .running, dying := dy } ⟨tame_finish hf _, hc⟩ rfl (fun w w' e => by unfold stepG.apply; simp only [if_true, e, hro, hfol', hrec, Bool.false_eq_true, if_false]; try rfl)
           | some y => exact go { frame := fr.finish y.1, callers := y.2, status := .running, dying := dy } ⟨tame_finish hf _, tame_recoverLoop cs l y.1 y.2 hc hrec⟩ rfl (fun w w' e => by unfold stepG.apply; simp only [if_true, e, hro, hfol', hrec, Bool.false_eq_true, if_false]; try rfl)
     | spawn d =>
       have sp : (∀ w w', s.runT P w #[] = (.ok (.spawn d) w', es) -> stepG.apply P true fr cs dy s w = GStep.after (seen P fr.fn (if (fr.kind == CallKind.early) = true then #[] else es)) (.spawn { frame := fr.finish undef, callers := cs, status := .running, dying := dy } { frame := { (default : Frame) with fn := P.funcs.size, defers := [d], mode := .panicking [goexitEntry] }, callers := [], status := .running, dying := none } w')) -> NiceAt (fun w => stepG.apply P true fr cs dy s w) w := fun e =>
         comp_at (nice_after hb' (nice_spawn _ _)) h3 h4 (e w w' hr) (fun T d' hT => e _ _ (h5 T d' hT))
       cases hdt : d.target with
       | nil =>
         by_cases hn : (P.follows .goNilFatal && true && d.args.isEmpty && fr.noResult P) = true
         · refine comp_at (nice_after hb' (nice_throw hf "go of nil func value")) h3 h4 ?_ (fun T d' hT => ?_)
           · unfold stepG.apply; simp only [if_true, hr, hdt, hn]; try rfl
           · unfold stepG.apply; simp only [if_true, h5 T d' hT, mapW, hdt, hn]; try rfl
         · have hn' : (P.follows .goNilFatal && true && d.args.isEmpty && fr.noResult P) = false := by simpa using hn
           exact sp (fun w w' e => by unfold stepG.apply; simp only [if_true, e, hdt, hn', Bool.false_eq_true, if_false])
       | _ => exact sp (fun w w' e => by unfold stepG.apply; simp only [if_true, e, hdt, Bool.and_false, Bool.false_and, Bool.false_eq_true, if_false])
     | comm c b sh => exact comp_at (nice_after hb' (nice_comm (g := { frame := fr, callers := cs, status := .running, dying := dy }) ⟨hf, hc⟩ c b sh)) h3 h4 (by unfold stepG.apply; simp only [if_true, hr]; try rfl) (fun T d hT => by unfold stepG.apply; simp only [if_true, h5 T d hT]; try rfl)
     | coroswitch c e => exact comp_at (nice_after hb' (nice_coro (g := { frame := fr, callers := cs, status := .running, dying := dy }) ⟨hf, hc⟩ c hpost)) h3 h4 (by unfold stepG.apply; simp only [if_true, hr]; try rfl) (fun T d hT => by unfold stepG.apply; simp only [if_true, h5 T d hT]; try rfl)
     | row row args =>
       cases htd : fr.todo with
       | nil => exact go { frame := Frame.ofRow P row args .normal, callers := fr :: cs, status := .running, dying := dy } ⟨fun i hi => by simp only [Frame.ofRow, List.mem_singleton] at hi; subst hi; exact hpost, hcc⟩ rfl (fun w w' e => by unfold stepG.apply; simp only [if_true, e, htd]; try rfl)
       | cons it k =>
         have hk : ∀ i ∈ k, TameItem i := fun i hi => hf i (by rw [htd]; exact List.mem_cons_of_mem _ hi)
         cases it with
         | extern r' a' => exact go { frame := { fr with todo := .extern row args :: k }, callers := cs, status := .running, dying := dy } ⟨fun i hi => (List.mem_cons.1 hi).elim (fun e => e ▸ hpost) (hk i), hc⟩ rfl (fun w w' e => by unfold stepG.apply; simp only [if_true, e, htd]; try rfl)
         | call d' wr r' sv => exact False.elim (hf (.call d' wr r' sv) (by rw [htd]; exact List.mem_cons_self ..))
         | _ => exact go { frame := Frame.ofRow P row args .normal, callers := fr :: cs, status := .running, dying := dy } ⟨fun i hi => by simp only [Frame.ofRow, List.mem_singleton] at hi; subst hi; exact hpost, hcc⟩ rfl (fun w w' e => by unfold stepG.apply; simp only [if_true, e, htd]; try rfl)
     | numGoroutine => exact hpost.elim
     | collect => exact hpost.elim
     | watch v => exact hpost.elim
     | newcoro c d => exact hpost.elim
     | sleep t => exact hpost.elim
     | timer op => exact hpost.elim
     | alone on v => exact hpost.elim
     | callThen d r sv wr => exact hpost.elim
     | stack r sv => exact hpost.elim
   | halt hh w' =>
     obtain ⟨hnf, hb⟩ := h2 hh w' rfl
     cases hh with
     | panic v => exact comp_at (nice_after (bal_seen (P := P) (fn := fr.fn) (bal_early (hb trivial) fr.kind)) (nice_go (g := { frame := fr.raise [{ v, recovered := false }], callers := cs, status := .running, dying := dy }) ⟨tame_raise hf _, hc⟩)) h3 h4 (by unfold stepG.apply; simp only [if_true, hr]; try rfl) (fun T d hT => by unfold stepG.apply; simp only [if_true, h5 T d hT]; try rfl)
     | goexit => exact comp_at (nice_after (bal_seen (P := P) (fn := fr.fn) (bal_early (hb trivial) fr.kind)) (nice_go (g := { frame := fr.raise [goexitEntry], callers := cs, status := .running, dying := dy }) ⟨tame_raise hf _, hc⟩)) h3 h4 (by unfold stepG.apply; simp only [if_true, hr]; try rfl) (fun T d hT => by unfold stepG.apply; simp only [if_true, h5 T d hT]; try rfl)
     | blocked => exact comp_at (nice_after (bal_seen (P := P) (fn := fr.fn) (bal_early bal_nil fr.kind)) (nice_go (g := { frame := fr, callers := cs, status := .blocked, dying := dy }) ⟨hf, hc⟩)) h3 h4 (by unfold stepG.apply; simp only [if_true, hr]; try rfl) (fun T d hT => by unfold stepG.apply; simp only [if_true, h5 T d hT]; try rfl)
     | waiting => exact comp_at (nice_after (bal_seen (P := P) (fn := fr.fn) (bal_early bal_nil fr.kind)) (nice_go (g := { frame := fr, callers := cs, status := .waiting, dying := dy }) ⟨hf, hc⟩)) h3 h4 (by unfold stepG.apply; simp only [if_true, hr]; try rfl) (fun T d hT => by unfold stepG.apply; simp only [if_true, h5 T d hT]; try rfl)
     | fatal m => exact absurd rfl (hnf m)
     | exit c => exact ends_at (by unfold stepG.apply; simp only [if_true, hr]; exact ⟨_, _, _, rfl⟩)
     | stuck m => exact ends_at (by unfold stepG.apply; simp only [if_true, hr]; exact ⟨_, _, _, rfl⟩)
     | throw m => exact comp_at (nice_after (bal_seen (P := P) (fn := fr.fn) (bal_early (hb trivial) fr.kind)) (nice_throw hf m)) h3 h4 (by unfold stepG.apply; simp only [if_true, hr]; try rfl) (fun T d hT => by unfold stepG.apply; simp only [if_true, h5 T d hT]; try rfl)
     | unsupported u =>
       cases u with
       | initOrder g => exact comp_at (nice_after (bal_seen (P := P) (fn := fr.fn) (bal_early bal_nil fr.kind)) (nice_early hf hc dy g)) h3 h4 (by unfold stepG.apply; simp only [if_true, hr]; try rfl) (fun T d hT => by unfold stepG.apply; simp only [if_true, h5 T d hT]; try rfl)
       | _ => exact ends_at (by unfold stepG.apply; simp only [if_true, hr]; exact ⟨_, _, _, rfl⟩)
end
end Go.Bsd
