/-
  The parts: base Tok7 base Prs16 base Prs17 base Prs18 base Prs19
-/
import Derived.Test.YtonmcakdofbjiaaDoorV18
import Derived.Test.YtonmcakdofbjiaaDoorV22
set_option linter.unusedVariables false
set_option linter.unusedSimpArgs false
set_option linter.unusedSectionVars false
set_option linter.unnecessarySimpa false
set_option maxRecDepth 100000
set_option maxHeartbeats 8000000
namespace Go.Proofs.YtonmcakdofbjiaaDoor
open Go.RowKit Go.Bsd Go.Conc
def chAct (s : ByteArray) (c : Nat) : Act :=
 { tmps := #[.string s, undef, .slice none 0 0, .int .i64 0, .int .i64 0, .chan (some c), undef, undef, undef, .string s, .int .i64 s.size, .bool false, .chan (some c), undef, undef, undef, undef, undef, undef, undef, undef, undef, undef, undef, undef, undef, undef, undef, undef, undef, undef, undef, undef, undef, undef, undef], defers := [] }
theorem tkGo_is : ∃ id, tkGo = .region id (regOps tkGo) false /\ (regOps tkGo).size = 3 := ⟨_, rfl, rfl⟩
def goOper : Oper := { dst := none, op := Op.go { callee := Callee.value (Operand.func 30), args := #[Operand.tmp 13, Operand.tmp 14], argTypes := #[9, 86] }, type := 0, pos := "lex.go:116", after := #[{ on := 0, ground := Ground.data }, { on := 1, ground := Ground.data }], guard := none }
theorem go_spawn (s : ByteArray) (c : Nat) (cs : List Frame) (w : World) :
   stepG Tryd.prog true (Go.Conc.G ((base0 18).at (goAct s c) [.inRegion (regOps tkGo) [2], .code tk4]) cs) w = .spawn (Go.Conc.G (frc s c) cs) (born Tryd.prog (cutCall s c)) w #[] := by
 have hr : (execOp (goAct s c).eval goOper).runT Tryd.prog w #[] = (.ok (.spawn (cutCall s c)) w, #[]) := by
   simp [execOp, goOper, resolve, evalT, goAct, cutCall, Sem.runT, Deferred.ofValue, Act.eval]
 have he1 : (execOp (goAct s c).eval goOper).run Tryd.prog w = .ok (.spawn (cutCall s c)) w := by rw [<- Sem.runT_fst (es := #[]), hr]
 have he2 : (execOp (goAct s c).eval goOper).events Tryd.prog w #[] = #[] := by unfold Sem.events; rw [hr]
 have := stepG_spawn (P := Tryd.prog) (main := true) (b := base0 18) (a := goAct s c) (k := [.code tk4]) (cs := cs) (w := w) (ops := regOps tkGo) (i := 2) (rest := []) (o := goOper) (d := cutCall s c) (w' := w) rfl rfl (by simp [base0]) he1 rfl
 rw [listed_none he2] at this
 exact this
theorem xc_free (s : ByteArray) (f : FuncId) (c : Nat) : TapeFree (Xc s f c) := fun g w T d ⟨a, b, sl, h1, h2, h3⟩ =>
 let ⟨x0, x1, x2, x3, h⟩ := h3.bad
 ⟨a, b, sl, h1, h2, h3.chan, h3.own, ⟨x0, x1, x2, x3, h.c0, h.c1, h.c2, h.c3, h.c4, h.c5, h.f0, h.f1, h.f2, h.f3, h.f4, h.f5⟩, h3.lt, h3.ltc⟩
theorem xc_recv (s : ByteArray) (f : FuncId) (c : Nat) : ∀ g v, Xc s f c g v -> AtRecv Tryd.prog f c ((pieces s).length + 1) g v := by
 rintro g v ⟨a, b, sl, rfl, h2, h3⟩
 refine ⟨_, zeroItem, true, rfl, rfl, fun T d => recv_comm s c b sl a _ h2 _, ?_⟩
 have := h3.chan
 rw [List.drop_length] at this
 exact ⟨_, _, this⟩
theorem tame_recvK (a : Act) : TameF ((base0 18).at a recvK) := by
 intro i hi
 have : i ∈ recvK := hi
 simp only [recvK, loopK, List.mem_cons, List.not_mem_nil, or_false] at this
 rcases this with rfl | rfl | rfl | rfl | rfl <;> trivial
theorem tok_pipe (hP : TameProg Tryd.prog) (s : ByteArray) (hs : ¬ 8192 < s.size) (w0 : World) (hv : VarsOk w0) (cs : List Frame) :
   Bes Tryd.prog (Leav Tryd.prog 18 (TokPost s w0) cs) (Go.Conc.G ((base0 18).at (goAct s w0.heap.size) [.inRegion (regOps tkGo) [2], .code tk4]) cs) (w0.alloc (.chan 16 #[] false 0 0 false)) := by
 intro hr ht
 have hvW : VarsOk (w0.alloc (.chan 16 #[] false 0 0 false)) := by
   have g := World.grownBy_alloc w0 (.chan 16 #[] false 0 0 false) none
   exact hv.kin ⟨rfl, rfl, g.size, fun k hk => g.block k hk (by simp)⟩
 have hsz := hv.size
 have h9z : 2 < w0.heap.size := by obtain ⟨_, _, _, _, q⟩ := hv.far 2 (.inr rfl); exact lt_of_some q
 have h5z : 5 < w0.heap.size := by obtain ⟨_, _, _, q, _⟩ := hv.plain 5 (.inr (.inr rfl)); exact lt_of_some q
 obtain ⟨o8, o9, ⟨t8, p8, h8⟩, ⟨t9, p9, h9⟩, hz9, hGW⟩ := hvW.stands
 have hcl : w0.heap.size < (w0.alloc (.chan 16 #[] false 0 0 false)).heap.size := by simp
 have hclp : w0.heap.size < (farW (w0.alloc (.chan 16 #[] false 0 0 false)) o8 o9).heap.size := by rw [farW_size]; exact hcl
 have hlen : ((pieces s).map Item.v).length = (pieces s).length := List.length_map _
 have hpl := pieces_length s
 have hMp := cut_lone s 18 w0.heap.size (farW (w0.alloc (.chan 16 #[] false 0 0 false)) o8 o9) (by omega) hclp _ _ h8 h9 ⟨_, _, rfl⟩ ⟨_, _, rfl⟩ (by omega) (by omega)
 have hMc := tok_lone s 18 w0.heap.size (w0.alloc (.chan 16 #[] false 0 0 false)) (by omega) hcl
 rw [<- hlen] at hMp hMc
 refine (bes_pipe (P := Tryd.prog) (f := 18) (c := w0.heap.size) (cap := 16) (L := (pieces s).map Item.v) (l0 := cs) (Gb := fun y => y = 3 \/ y = 4 \/ y = 5 \/ y = 1 \/ y = 2) (W := w0.alloc (.chan 16 #[] false 0 0 false)) (Wp := farW (w0.alloc (.chan 16 #[] false 0 0 false)) o8 o9) (Xc := Xc s 18 w0.heap.size) (Xp := Xp s 18 w0.heap.size (farW (w0.alloc (.chan 16 #[] false 0 0 false)) o8 o9))
   (ts := #[86]) (ty := 0) (cn := #[false]) hP prod_sim nobody_sim ?_ rfl (fun T d => go_spawn s _ cs _) (cut_pre s _) (frel_prod s _ _) rfl rfl ?_ (frel_cons s _) rfl ?_ ht.2 (by decide) (heap_alloc_new w0 _) ?_ (fun g hg => by simpa [inG, prodG] using hg) hGW (farW_size _ _ _) rfl (by omega) hMp hMc (xp_free _ _ _ _) (xc_free _ _ _) ?_ ?_ ?_ ?_).bind ?_ hr ht
 · intro x hx
   obtain ⟨y, _, rfl⟩ := List.mem_map.1 hx
   exact plainV_item y
 · intro i hi
   have : i = .code cutRest := List.mem_singleton.1 hi
   subst this
   trivial
 · intro i hi
   have hi : i ∈ [.inRegion (regOps tkGo) [], .code tk4] := hi
   simp only [List.mem_cons, List.not_mem_nil, or_false] at hi
   rcases hi with rfl | rfl <;> trivial
 · intro g hg
   exact absurd hg (by simp [inG])
 · intro g v hx
   have := xp_close s 18 w0.heap.size _ g v hx
   exact this
 · rintro g v ⟨fr, h1, h2, h3, h4, h5, h6⟩ y hy hyc
   exact h5 y (by rw [farW_size]; omega) hyc
 · intro g v hx
   rw [hlen]
   exact xc_recv s _ _ g v hx
 · rintro g v ⟨a, b, sl, rfl, _⟩
   exact tame_recvK a
 · rintro g w1 ⟨ρ, fr, fr', z, z', ok, v, hE⟩
   exact tok_tail hP s 18 w0.heap.size w0 _ cs hs rfl ⟨_, rfl⟩ hE
theorem tok_go (hP : TameProg Tryd.prog) (s : ByteArray) (hs : ¬ 8192 < s.size) (w0 : World) (hv : VarsOk w0) :
   tailB Tryd.prog 18 (TokPost s w0) (seqR tk2) (chAct s w0.heap.size) (w0.alloc (.chan 16 #[] false 0 0 false)) := by
 intro cs
 have e : seqR tk2 = .seq tkGo tk4 := rfl
 rw [e]
 obtain ⟨id, hid, h3⟩ := tkGo_is
 refine head1 hP (fun w => step_seq) ?_
 have hreg : ∀ w, step Tryd.prog (lone ((base0 18).at (chAct s w0.heap.size) [.code tkGo, .code tk4]) cs w) = .next (lone ((base0 18).at (chAct s w0.heap.size) [.inRegion (regOps tkGo) [0, 1, 2], .code tk4]) cs w) := fun w => by
   have := step_region (P := Tryd.prog) (b := base0 18) (a := chAct s w0.heap.size) (k := [.code tk4]) (cs := cs) (w := w) (ops := regOps tkGo) (id := id)
   rw [<- hid, h3] at this
   exact this
 refine head1 hP hreg ?_
 have m1 : ∀ w, step Tryd.prog (lone ((base0 18).at (chAct s w0.heap.size) [.inRegion (regOps tkGo) [0, 1, 2], .code tk4]) cs w) = _ := fun w =>
   lone_value (P := Tryd.prog) (b := base0 18) (a := chAct s w0.heap.size) (k := [.code tk4]) (cs := cs) (ops := regOps tkGo) (i := 0) (rest := [1, 2]) (w := w) (w' := w) (v := .string s)
     (o := { dst := some 13, op := Op.move (Operand.tmp 0), type := 9, pos := "lex.go:116", after := #[], guard := none }) rfl rfl (by simp [execOp, evalT, chAct])
 refine head1 hP m1 ?_
 have m2 : ∀ w, step Tryd.prog (lone ((base0 18).at ((chAct s w0.heap.size).put (some 13) (.string s)) [.inRegion (regOps tkGo) [1, 2], .code tk4]) cs w) = _ := fun w =>
   lone_value (P := Tryd.prog) (b := base0 18) (a := (chAct s w0.heap.size).put (some 13) (.string s)) (k := [.code tk4]) (cs := cs) (ops := regOps tkGo) (i := 1) (rest := [2]) (w := w) (w' := w) (v := .chan (some w0.heap.size))
     (o := { dst := some 14, op := Op.move (Operand.tmp 5), type := 70, pos := "lex.go:116", after := #[], guard := none }) rfl rfl (by simp [execOp, evalT, chAct, Act.put])
 refine head1 hP m2 ?_
 exact tok_pipe hP s hs w0 hv cs
theorem make16 (w : World) : (Instr.makeChan 70 (.int .i64 16)).run Tryd.prog w = .ok (.chan (some w.heap.size)) (w.alloc (.chan 16 #[] false 0 0 false)) := by
 obtain ⟨i0, hi, hz0, hz1, hz2⟩ := info_parts info142
 simp [Instr.makeChan, run_underlying u136, typeInfo, hi, hz2, go_sem]
theorem tokens_any (hP : TameProg Tryd.prog) (s : ByteArray) (hs : s.size <= 9223372036854775807) (w : World) (hv : VarsOk w) : CallsB Tryd.prog 18 #[.string s] w (TokPost s w) := by
 refine callsB_of_tailB Tryd.func18 (c := tk0) rfl ?_
 have e0 : tk0 = .seq (seqL tk0) (.seq (seqL (seqR tk0)) (.seq (seqL tk2) (seqR tk2))) := rfl
 rw [e0]
 have ha : (#[Value.string s] ++ Array.replicate (Tryd.f18.ntmps - #[Value.string s].size) undef) = #[.string s, undef, undef, undef, undef, undef, undef, undef, undef, undef, undef, undef, undef, undef, undef, undef, undef, undef, undef, undef, undef, undef, undef, undef, undef, undef, undef, undef, undef, undef, undef, undef, undef, undef, undef, undef] := by
   simp only [Tryd.ntmps18]
   simp [Array.replicate_succ]
 rw [ha]
 have hR : ∀ w', ¬ TokPost s w .outgrown w' := fun w' h => h
 refine tailB_seq hP Tryd.func18 hR (wpB_lift hP fun T d => ?_)
 generalize hB : bodyPost Tryd.prog Tryd.f18 (TokPost s w) = B
 generalize hY : (Code.seq (seqL (seqR tk0)) (.seq (seqL tk2) (seqR tk2))) = Y
 simp only [seqL, tk0, Tryd.f18, Option.getD_some]
 go_wp2
 subst hY
 refine tailB_seq hP Tryd.func18 hR (wpB_lift hP fun T d => ?_)
 subst hB
 generalize hB : bodyPost Tryd.prog Tryd.f18 (TokPost s w) = B
 have HB := Lib.hid hB
 clear hB
 generalize hY : (Code.seq (seqL tk2) (seqR tk2)) = Y
 simp only [seqL, seqR, tk0, Tryd.f18, Option.getD_some]
 have HV := Lib.hid hv
 clear hv
 by_cases hlen : 8192 < s.size
 · have hq : decide ((8192 : Int) < ↑s.size) = true := by simp; omega
   have HL := Lib.hid hlen
   clear hlen
   go_wp2
   rw [<- HB.out]
   refine ⟨rfl, _, res40 _ _ _ _ rfl rfl rfl _, ⟨rfl, rfl, Nat.le_refl _, fun _ _ => rfl⟩, ?_⟩
   unfold TokRes
   rw [if_pos HL.out]
   rfl
 · have hq : decide ((8192 : Int) < ↑s.size) = false := by simp; omega
   have HL := Lib.hid hlen
   clear hlen
   go_wp2
   subst hY
   refine tailB_seq hP Tryd.func18 hR (wpB_lift hP fun T2 d2 => ?_)
   rw [show re (re w T d) T2 d2 = re w T2 d2 from rfl]
   have hgo := tok_go hP s HL.out w HV.out
   have HGO := Lib.hid hgo
   clear hgo
   rw [HB.out]
   generalize hX : seqR tk2 = X at HGO ⊢
   clear hX
   simp only [seqL, seqR, tk2, tk0, Tryd.f18, Option.getD_some]
   have hm := make16 (re w T2 d2)
   go_wp2
   exact HGO.out
end Go.Proofs.YtonmcakdofbjiaaDoor
namespace Go.Proofs.YtonmcakdofbjiaaDoor
open Go.RowKit Go.Bsd
inductive POut where
 | tree (l : List Nd)
 | fault (kind at_ : Int)
def ParRes (te : TypeId) (pe : Value) (w : World) (o : POut) (v : Value) (w' : World) : Prop := match o with
 | .tree l => ∃ sl, v = .tuple #[sl, .nilIface] /\ w'.ownsRow w.heap.size 26 6 sl l.length (ndCells l)
 | .fault k p => ∃ q, v = .tuple #[.slice none 0 0, .iface 54 (.pointer (some ⟨q, 0, none⟩))] /\ w.heap.size <= q /\ w'.heap[q]? = some (.cells #[.int .i64 k, .int .i64 p, .iface te pe] 78 (0, 0))
def ParPost (te : TypeId) (pe : Value) (w : World) (o : POut) : Ending -> World -> Prop
 | .returned v, w' => Kin w w' /\ ParRes te pe w o v w'
 | _, _ => False
noncomputable def pk0 : Code := (Tryd.f10.body.getD .skip)
noncomputable def pk2 : Code := seqR (seqR pk0)
theorem res14 (a : Array Value) (n0 : Nat) (W : World) (b : Option Addr) (n cap : Nat) (y : Value) (h2 : a.getD 2 undef = .pointer (some ⟨n0, 0, none⟩)) (h3 : a.getD 3 undef = .pointer (some ⟨n0 + 1, 0, none⟩)) (c2 : W.cell? ⟨n0, 0, none⟩ = some (.slice b n cap)) (c3 : W.cell? ⟨n0 + 1, 0, none⟩ = some y) (hy : y = .nilIface \/ ∃ t v, y = .iface t v) :
   (results Tryd.f10 a).run Tryd.prog W = .ok (.tuple #[.slice b n cap, y]) W := by
 rw [Array.getD_eq_getD_getElem?] at h2 h3
 rcases hy with rfl | ⟨t, v, rfl⟩
 · simp only [results, Tryd.f10]
   simp [go_sem, h2, h3, c2, c3]
 · simp only [results, Tryd.f10]
   simp [go_sem, h2, h3, c2, c3]
theorem parse_bad (s : ByteArray) (te : TypeId) (pe : Value) (w w1 : World) (n0 : Nat) (sl : Value) (kd pl : Int) (hkd : kd ≠ 0) (hn : n0 = w.heap.size) (hk : Kin w w1) (c2 : w1.cell? ⟨n0, 0, none⟩ = some (.slice none 0 0)) (c3 : w1.cell? ⟨n0 + 1, 0, none⟩ = some .nilIface) (f2 : w1.frozen? ⟨n0, 0, none⟩ = false) (f3 : w1.frozen? ⟨n0 + 1, 0, none⟩ = false) (hl : n0 + 1 < w1.heap.size) (ce : w1.cell? ⟨0, 0, none⟩ = some (.iface te pe)) :
   pk2.wp Tryd.prog (bodyPostD Tryd.prog Tryd.f10 (ParPost te pe w (.fault kd pl))) { tmps := #[.string s, undef, .pointer (some ⟨n0, 0, none⟩), .pointer (some ⟨n0 + 1, 0, none⟩), sl, .int .i64 kd, .int .i64 pl, undef, undef, undef, undef, undef, .tuple #[sl, .int .i64 kd, .int .i64 pl], .string s, .tuple #[sl, .int .i64 kd, .int .i64 pl], sl, .int .i64 kd, .int .i64 pl, undef, undef, undef, undef, undef, undef, undef, undef, undef, undef, undef, undef, undef, undef, undef, undef, undef, undef, undef, undef, undef, undef, undef, undef, undef, undef, undef, undef, undef, undef, undef, undef, undef, undef, undef, undef, undef, undef, undef, undef, undef, undef, undef, undef, undef, undef, undef], defers := [] } w1 := by
 have HK := Lib.hid hk
 have HN := Lib.hid hn
 clear hk hn
 have k1 : (kd == 0) = false := by simp [hkd]
 have k2 : (kd != 0) = true := by simp [hkd]
 clear hkd
 have hl0 : n0 < w1.heap.size := by omega
 have hne0 : ¬ n0 = w1.heap.size := by omega
 have hne1 : ¬ n0 + 1 = w1.heap.size := by omega
 generalize hQ : bodyPostD Tryd.prog Tryd.f10 (ParPost te pe w (.fault kd pl)) = Q
 have HQ := Lib.hid hQ
 clear hQ
 simp only [pk2, pk0, seqR, Tryd.f10, Option.getD_some]
 go_wp2_with (go_at_call 19; refine (refused_any kd pl te pe _ ce).mono ?_; rintro e w' ⟨rfl, rfl⟩)
 rw [<- HQ.out]
 have p2 : ((w1.setCell ⟨n0, 0, none⟩ (.slice none 0 0)).setCell ⟨n0 + 1, 0, none⟩ (.iface 54 (.pointer (some ⟨w1.heap.size, 0, none⟩)))).cell? ⟨n0, 0, none⟩ = some (.slice none 0 0) := by simp [go_sem, c2]
 have p3 : ((w1.setCell ⟨n0, 0, none⟩ (.slice none 0 0)).setCell ⟨n0 + 1, 0, none⟩ (.iface 54 (.pointer (some ⟨w1.heap.size, 0, none⟩)))).cell? ⟨n0 + 1, 0, none⟩ = some (.iface 54 (.pointer (some ⟨w1.heap.size, 0, none⟩))) := by simp [go_sem, c3]
 have q2 : (((w1.setCell ⟨n0, 0, none⟩ (.slice none 0 0)).setCell ⟨n0 + 1, 0, none⟩ (.iface 54 (.pointer (some ⟨w1.heap.size, 0, none⟩)))).alloc (Obj.cells #[Value.int IntKind.i64 kd, Value.int IntKind.i64 pl, Value.iface te pe] 78)).cell? ⟨n0, 0, none⟩ = some (.slice none 0 0) := (World.grownBy_alloc _ _ none).cell p2 (by simp)
 have q3 : (((w1.setCell ⟨n0, 0, none⟩ (.slice none 0 0)).setCell ⟨n0 + 1, 0, none⟩ (.iface 54 (.pointer (some ⟨w1.heap.size, 0, none⟩)))).alloc (Obj.cells #[Value.int IntKind.i64 kd, Value.int IntKind.i64 pl, Value.iface te pe] 78)).cell? ⟨n0 + 1, 0, none⟩ = some (.iface 54 (.pointer (some ⟨w1.heap.size, 0, none⟩))) := (World.grownBy_alloc _ _ none).cell p3 (by simp)
 refine ⟨_, res14 _ n0 _ none 0 0 _ rfl rfl q2 q3 (.inr ⟨_, _, rfl⟩), ?_, w1.heap.size, rfl, HK.out.size, ?_⟩
 · have hk := HK.out
   have hn := HN.out
   have g1 := grown_set w1 n0 0 (.slice none 0 0)
   have g2 := grown_set (w1.setCell ⟨n0, 0, none⟩ (.slice none 0 0)) (n0 + 1) 0 (.iface 54 (.pointer (some ⟨w1.heap.size, 0, none⟩)))
   have g3 := World.grownBy_alloc ((w1.setCell ⟨n0, 0, none⟩ (.slice none 0 0)).setCell ⟨n0 + 1, 0, none⟩ (.iface 54 (.pointer (some ⟨w1.heap.size, 0, none⟩)))) (Obj.cells #[Value.int IntKind.i64 kd, Value.int IntKind.i64 pl, Value.iface te pe] 78) none
   have s0 := hk.size
   have s1 := g1.size
   have s2 := g2.size
   exact ⟨hk.os, hk.out, Nat.le_trans s0 (Nat.le_trans s1 (Nat.le_trans s2 g3.size)), fun k hkk => (g3.block k (by omega) (by simp)).trans ((g2.block k (by omega) (by simp; omega)).trans ((g1.block k (by omega) (by simp; omega)).trans (hk.block k hkk)))⟩
 · have := heap_alloc_new ((w1.setCell ⟨n0, 0, none⟩ (.slice none 0 0)).setCell ⟨n0 + 1, 0, none⟩ (.iface 54 (.pointer (some ⟨w1.heap.size, 0, none⟩)))) (Obj.cells #[Value.int IntKind.i64 kd, Value.int IntKind.i64 pl, Value.iface te pe] 78)
   simpa using this
end Go.Proofs.YtonmcakdofbjiaaDoor
namespace Go.Proofs.YtonmcakdofbjiaaDoor
open Go.RowKit Go.Bsd
theorem flat_get {L : List Item} {j : Nat} {t : Item} (h : L[j]? = some t) (k : Nat) (hk : k < 4) : (flatToks L)[j * 4 + k]? = (tokCells t)[k]? := by
 induction L generalizing j with
 | nil => simp at h
 | cons x l ih =>
   have e : flatToks (x :: l) = tokCells x ++ flatToks l := by simp [flatToks]
   have hl : (tokCells x).length = 4 := rfl
   rw [e]
   cases j with
   | zero =>
     simp at h
     subst h
     rw [List.getElem?_append_left (by rw [hl]; omega)]
     congr 1
     omega
   | succ j =>
     simp at h
     rw [List.getElem?_append_right (by rw [hl]; omega), hl, show (j + 1) * 4 + k - 4 = j * 4 + k from by omega]
     exact ih h
def blockOf : Value -> Nat
 | .slice (some a) _ _ => a.block
 | _ => 0
def ctxOf (s : ByteArray) (te : TypeId) (pe : Value) (r : Nat) (sl : Value) : Ctx := ⟨goodOf (pieces s), s.size, te, pe, r, blockOf sl⟩
theorem rd_start (s : ByteArray) (te : TypeId) (pe : Value) (sl : Value) (B : Nat) (w1 : World) (hown : w1.ownsRow B 74 4 sl (goodOf (pieces s)).length (flatToks (goodOf (pieces s)))) (hL : (goodOf (pieces s)).length <= 8193) (he : w1.cell? ⟨0, 0, none⟩ = some (.iface te pe)) :
   Rd (ctxOf s te pe w1.heap.size sl) 0 (w1.alloc (.cells #[sl, .int .i64 0, .int .i64 s.size] 58)) := by
 have h0 : 0 < w1.heap.size := World.block_lt_of_cell? w1 ⟨0, 0, none⟩ he
 have c0 : (w1.alloc (.cells #[sl, .int .i64 0, .int .i64 s.size] 58)).cell? ⟨w1.heap.size, 0, none⟩ = some sl := by simp [go_sem]
 have hkeep : ∀ {n o : Nat} {v : Value}, w1.cell? ⟨n, o, none⟩ = some v -> (w1.alloc (.cells #[sl, .int .i64 0, .int .i64 s.size] 58)).cell? ⟨n, o, none⟩ = some v := fun h => (World.grownBy_alloc w1 _ none).cell h (by simp)
 rcases hown.2 with ⟨rfl, hn⟩ | ⟨g, cap, cur, rfl, hb, hg, hn, hm, hsz, htake⟩
 · have hnil : goodOf (pieces s) = [] := List.eq_nil_of_length_eq_zero hn
   refine ⟨⟨none, 0, 0, by refine c0.trans ?_; simp [ctxOf, hnil], fun h => absurd hnil h, by simp [ctxOf, hnil], ⟨?_, ?_, ?_, ?_⟩, fun h => absurd hnil h⟩, by simp [go_sem, ctxOf], by simp [go_sem, ctxOf], by simp [go_sem, ctxOf], Nat.zero_le _, hL, hkeep he, h0, fun b n cap hb hne => absurd hnil hne⟩ <;>
     (intro j t hj; simp [ctxOf, hnil] at hj)
 · have cells : ∀ (j : Nat) (t : Item), (goodOf (pieces s))[j]? = some t -> ∀ k v, k < 4 -> (tokCells t)[k]? = some v -> (w1.alloc (.cells #[.slice (some ⟨g, 0, none⟩) (goodOf (pieces s)).length cap, .int .i64 0, .int .i64 s.size] 58)).cell? ⟨g, j * 4 + k, none⟩ = some v := by
     intro j t hj k v hk hv
     refine hkeep ?_
     have := hown.cells rfl (j * 4 + k) v ((flat_get hj k hk).trans hv)
     rw [show ((⟨g, 0, none⟩ : Addr).add (j * 4 + k)) = ⟨g, j * 4 + k, none⟩ from by unfold Addr.add; split <;> simp_all] at this
     exact this
   have hgl : g < w1.heap.size := (Array.getElem?_eq_some_iff.1 hg).1
   refine ⟨⟨_, cap, g, c0, fun _ => rfl, hn, ⟨fun j t hj => cells j t hj 0 _ (by omega) rfl, fun j t hj => cells j t hj 1 _ (by omega) rfl, fun j t hj => cells j t hj 2 _ (by omega) rfl, fun j t hj => cells j t hj 3 _ (by omega) rfl⟩, fun _ => by show g ≠ w1.heap.size; omega⟩, by simp [go_sem, ctxOf], by simp [go_sem, ctxOf], by simp [go_sem, ctxOf], Nat.zero_le _, hL, hkeep he, h0, fun b n cp hb hne => ?_⟩
   have hb : (w1.alloc (.cells #[.slice (some ⟨g, 0, none⟩) (goodOf (pieces s)).length cap, .int .i64 0, .int .i64 s.size] 58)).cell? ⟨w1.heap.size, 0, none⟩ = some (.slice b n cp) := hb
   rw [c0] at hb
   simp only [Option.some.injEq, Value.slice.injEq] at hb
   rw [<- hb.1]
   rfl
end Go.Proofs.YtonmcakdofbjiaaDoor
namespace Go.Proofs.YtonmcakdofbjiaaDoor
open Go.RowKit Go.Bsd
def outOf (l : List Nd) : POut :=
 if 300 < l.length then .fault 32 ((l[300]?.map (·.at_)).getD 0)
 else match l.find? (fun n => decide (24 < n.depth)) with
   | some n => .fault 31 n.at_
   | none => .tree l
def outOfRes : Res (List Tr) -> POut
 | .no p => .fault 30 p
 | .ok ts _ => outOf (flatTs ts 1)
theorem leave_fault (te : TypeId) (pe : Value) (w W : World) (tmps : Array Value) (n0 q : Nat) (k p : Int) (b : Option Addr) (n m : Nat) (t2 : tmps.getD 2 undef = .pointer (some ⟨n0, 0, none⟩)) (t3 : tmps.getD 3 undef = .pointer (some ⟨n0 + 1, 0, none⟩)) (hn : n0 = w.heap.size) (hk : Kin w W)
   (c2 : W.cell? ⟨n0, 0, none⟩ = some (.slice b n m)) (c3 : W.cell? ⟨n0 + 1, 0, none⟩ = some .nilIface) (f2 : W.frozen? ⟨n0, 0, none⟩ = false) (f3 : W.frozen? ⟨n0 + 1, 0, none⟩ = false) (hl : n0 + 1 < W.heap.size) (hq : n0 + 1 < q) (hf : W.heap[q]? = some (.cells #[.int .i64 k, .int .i64 p, .iface te pe] 78 (0, 0))) :
   Leaves Tryd.prog Tryd.f10 tmps (ParPost te pe w (.fault k p)) [{ target := Target.fn (Fn.func 20) #[Value.pointer (some { block := n0, off := 0 }), Value.pointer (some { block := n0 + 1, off := 0 })], args := #[] }] (.panicking [{ v := .iface 54 (.pointer (some ⟨q, 0, none⟩)), recovered := false }]) W := by
 have hinv : (invoke (.fn (.func 20) #[.pointer (some ⟨n0, 0, none⟩), .pointer (some ⟨n0 + 1, 0, none⟩)]) #[]).run Tryd.prog W = .ok (.enter 20 #[.pointer (some ⟨n0, 0, none⟩), .pointer (some ⟨n0 + 1, 0, none⟩)]) W := by
   have := callFunc_of Tryd.func20 (by kernel_rfl) (by kernel_rfl) #[.pointer (some ⟨n0, 0, none⟩), .pointer (some ⟨n0 + 1, 0, none⟩)] W
   simpa [invoke] using this
 refine ⟨by simp, _, _, 20, _, rfl, hinv, ?_⟩
 have hc := pcatch_panicking n0 q b n m W c2 c3 f2 f3 hl
 have p2 : ((W.setCell ⟨n0, 0, none⟩ (.slice none 0 0)).setCell ⟨n0 + 1, 0, none⟩ (.iface 54 (.pointer (some ⟨q, 0, none⟩)))).cell? ⟨n0, 0, none⟩ = some (.slice none 0 0) := by simp [go_sem, c2]
 have p3 : ((W.setCell ⟨n0, 0, none⟩ (.slice none 0 0)).setCell ⟨n0 + 1, 0, none⟩ (.iface 54 (.pointer (some ⟨q, 0, none⟩)))).cell? ⟨n0 + 1, 0, none⟩ = some (.iface 54 (.pointer (some ⟨q, 0, none⟩))) := by simp [go_sem, c3]
 have g1 := grown_set W n0 0 (.slice none 0 0)
 have g2 := grown_set (W.setCell ⟨n0, 0, none⟩ (.slice none 0 0)) (n0 + 1) 0 (.iface 54 (.pointer (some ⟨q, 0, none⟩)))
 have s0 := hk.size
 have s1 := g1.size
 have s2 := g2.size
 have hql : q < W.heap.size := (Array.getElem?_eq_some_iff.1 hf).1
 refine hc.mono ?_
 rintro e u' w' ⟨rfl, rfl, rfl⟩
 refine ⟨_, res14 _ n0 _ none 0 0 _ t2 t3 p2 p3 (.inr ⟨_, _, rfl⟩), ⟨hk.os, hk.out, by omega, fun x hx => ?_⟩, q, rfl, by omega, ?_⟩
 · exact (g2.block x (by omega) (by simp; omega)).trans ((g1.block x (by omega) (by simp; omega)).trans (hk.block x hx))
 · exact (g2.block q (by omega) (by simp; omega)).trans ((g1.block q (by omega) (by simp; omega)).trans hf)
theorem leave_tree (te : TypeId) (pe : Value) (w W : World) (tmps : Array Value) (n0 : Nat) (l : List Nd) (b : Option Addr) (c : Nat) (t2 : tmps.getD 2 undef = .pointer (some ⟨n0, 0, none⟩)) (t3 : tmps.getD 3 undef = .pointer (some ⟨n0 + 1, 0, none⟩)) (hk : Kin w W)
   (c2 : W.cell? ⟨n0, 0, none⟩ = some (.slice b l.length c)) (c3 : W.cell? ⟨n0 + 1, 0, none⟩ = some .nilIface) (ho : W.ownsRow w.heap.size 26 6 (.slice b l.length c) l.length (ndCells l)) :
   Leaves Tryd.prog Tryd.f10 tmps (ParPost te pe w (.tree l)) [{ target := Target.fn (Fn.func 20) #[Value.pointer (some { block := n0, off := 0 }), Value.pointer (some { block := n0 + 1, off := 0 })], args := #[] }] .returning W := by
 have hinv : (invoke (.fn (.func 20) #[.pointer (some ⟨n0, 0, none⟩), .pointer (some ⟨n0 + 1, 0, none⟩)]) #[]).run Tryd.prog W = .ok (.enter 20 #[.pointer (some ⟨n0, 0, none⟩), .pointer (some ⟨n0 + 1, 0, none⟩)]) W := by
   have := callFunc_of Tryd.func20 (by kernel_rfl) (by kernel_rfl) #[.pointer (some ⟨n0, 0, none⟩), .pointer (some ⟨n0 + 1, 0, none⟩)] W
   simpa [invoke] using this
 refine ⟨by simp, _, _, 20, _, rfl, hinv, ?_⟩
 refine (pcatch_idle ⟨n0, 0, none⟩ ⟨n0 + 1, 0, none⟩ W).mono ?_
 rintro e u' w' ⟨rfl, rfl, rfl⟩
 exact ⟨_, res14 _ n0 _ b _ c _ t2 t3 c2 c3 (.inl rfl), hk, _, rfl, ho⟩
theorem nd_get {L : List Nd} {j : Nat} {t : Nd} (h : L[j]? = some t) (k : Nat) (hk : k < 6) : (ndCells L)[j * 6 + k]? = t.cells[k]? := by
 induction L generalizing j with
 | nil => simp at h
 | cons x l ih =>
   have e : ndCells (x :: l) = x.cells ++ ndCells l := by simp [ndCells]
   have hl : x.cells.length = 6 := rfl
   rw [e]
   cases j with
   | zero =>
     simp at h
     subst h
     rw [List.getElem?_append_left (by rw [hl]; omega)]
     congr 1
     omega
   | succ j =>
     simp at h
     rw [List.getElem?_append_right (by rw [hl]; omega), hl, show (j + 1) * 6 + k - 6 = j * 6 + k from by omega]
     exact ih h
structure FlI (n0 : Nat) (w3 wr : World) (b : Option Addr) (c : Nat) (l : List Nd) : Prop where
 cell : wr.cell? ⟨n0, 0, none⟩ = some (.slice b l.length c)
 froz : wr.frozen? ⟨n0, 0, none⟩ = false
 own : wr.ownsRow w3.heap.size 26 6 (.slice b l.length c) l.length (ndCells l)
 os : wr.os = w3.os
 out : wr.output = w3.output
 size : w3.heap.size <= wr.heap.size
 keep : ∀ k, k < w3.heap.size -> k ≠ n0 -> wr.heap[k]? = w3.heap[k]?
theorem slice_of {w : World} {B : Nat} {e : TypeId} {z n : Nat} {v : Value} {xs : List Value} (h : w.ownsRow B e z v n xs) : ∃ b c, v = .slice b n c := by
 rcases h.2 with ⟨h1, h2⟩ | ⟨g, cap, cur, h1, _⟩
 · exact ⟨none, 0, by rw [h1, h2]⟩
 · exact ⟨_, cap, h1⟩
theorem FlI.step {n0 : Nat} {w3 wr w' : World} {b b' : Option Addr} {c c' : Nat} {l l' : List Nd} (h : FlI n0 w3 wr b c l) (hn : n0 < w3.heap.size) (hb : Below w3.heap.size wr w') (ho : w'.ownsRow w3.heap.size 26 6 (.slice b' l'.length c') l'.length (ndCells l')) : FlI n0 w3 (w'.setCell ⟨n0, 0, none⟩ (.slice b' l'.length c')) b' c' l' := by
 have g := grown_set w' n0 0 (.slice b' l'.length c')
 have c1 : w'.cell? ⟨n0, 0, none⟩ = some (.slice b l.length c) := (hb.cell (p := ⟨n0, 0, none⟩) hn).trans h.cell
 have c2 : w'.frozen? ⟨n0, 0, none⟩ = false := (hb.frozen (p := ⟨n0, 0, none⟩) hn).trans h.froz
 refine ⟨by simp [go_sem, c1], by simp [go_sem, c2], ho.kept g ?_, (g.os.trans hb.os).trans h.os, (g.output.trans hb.output).trans h.out, Nat.le_trans (Nat.le_trans h.size hb.size) g.size, fun k hk hkn => ?_⟩
 · cases hv : (Value.slice b' l'.length c').ownBlock with
   | none => exact .inl rfl
   | some k => right; have := ho.lt k hv; simp; omega
 · exact (g.block k (by have := h.size; have := hb.size; omega) (by simp; omega)).trans ((hb.block k hk).trans (h.keep k hk hkn))
theorem parse_good (s : ByteArray) (hs : s.size <= 8192) (te : TypeId) (pe : Value) (w w1 : World) (n0 f : Nat) (sl : Value) (pl : Int) (r : Res (List Tr)) (hr : rd (ctxOf s te pe w1.heap.size sl) f .prog 0 = some r) (hn : n0 = w.heap.size) (hk : Kin w w1) (c2 : w1.cell? ⟨n0, 0, none⟩ = some (.slice none 0 0)) (c3 : w1.cell? ⟨n0 + 1, 0, none⟩ = some .nilIface) (f2 : w1.frozen? ⟨n0, 0, none⟩ = false) (f3 : w1.frozen? ⟨n0 + 1, 0, none⟩ = false) (hl : n0 + 1 < w1.heap.size) (ce : w1.cell? ⟨0, 0, none⟩ = some (.iface te pe))
   (B : Nat) (hown : w1.ownsRow B 74 4 sl (goodOf (pieces s)).length (flatToks (goodOf (pieces s)))) (hL : (goodOf (pieces s)).length <= 8193) :
   pk2.wp Tryd.prog (bodyPostD Tryd.prog Tryd.f10 (ParPost te pe w (outOfRes r))) { tmps := #[.string s, undef, .pointer (some ⟨n0, 0, none⟩), .pointer (some ⟨n0 + 1, 0, none⟩), sl, .int .i64 0, .int .i64 pl, undef, undef, undef, undef, undef, .tuple #[sl, .int .i64 0, .int .i64 pl], .string s, .tuple #[sl, .int .i64 0, .int .i64 pl], sl, .int .i64 0, .int .i64 pl, undef, undef, undef, undef, undef, undef, undef, undef, undef, undef, undef, undef, undef, undef, undef, undef, undef, undef, undef, undef, undef, undef, undef, undef, undef, undef, undef, undef, undef, undef, undef, undef, undef, undef, undef, undef, undef, undef, undef, undef, undef, undef, undef, undef, undef, undef, undef], defers := [] } w1 := by
 have hRd := rd_start s te pe sl B w1 hown hL ce
 have HK := Lib.hid hk
 have HN := Lib.hid hn
 have hsl : ∃ b cap, sl = .slice b (goodOf (pieces s)).length cap := by
   rcases hown.2 with ⟨h, hn⟩ | ⟨g, cap, cur, h, _⟩
   · exact ⟨none, 0, by rw [h, hn]⟩
   · exact ⟨_, cap, h⟩
 obtain ⟨sb, sc, rfl⟩ := hsl
 have hprog := prog_any _ f 0 _ r hr hRd
 have hr0 := Lib.hid hr
 clear hk hn hr hown
 generalize hQ : bodyPostD Tryd.prog Tryd.f10 (ParPost te pe w (outOfRes r)) = Q
 have HQ := Lib.hid hQ
 clear hQ
 simp only [pk2, pk0, seqR, Tryd.f10, Option.getD_some]
 cases r with
 | no p =>
   have hprog := calls_no hprog
   go_wp2_with (go_at_call 21; refine (hprog).mono ?_; rintro e w' ⟨ch, rfl, hF⟩)
   rw [<- HQ.out]
   have hgA := World.grownBy_alloc w1 (Obj.cells #[Value.slice sb (goodOf (pieces s)).length sc, Value.int IntKind.i64 0, Value.int IntKind.i64 ↑s.size] 58) (some w1.heap.size)
   obtain ⟨q, rfl, hq1, hq2, hgB⟩ := hF
   have hG : w1.grownBy w' (some w1.heap.size) := grown_trans hgA hgB
   have hk := HK.out
   have hn := HN.out
   have s0 := hk.size
   have s1 := hG.size
   have hqs : w1.heap.size + 1 <= q := by simpa using hq1
   exact leave_fault te pe w w' _ n0 q 30 p none 0 0 rfl rfl hn ⟨hG.os.trans hk.os, hG.output.trans hk.out, by omega, fun x hx => (hG.block x (by omega) (by simp; omega)).trans (hk.block x hx)⟩
     (hG.cell c2 (by simp; omega)) (hG.cell c3 (by simp; omega)) ((World.frozen?_of_block (a := ⟨n0, 0, none⟩) (hG.block n0 (by omega) (by simp; omega))).trans f2) ((World.frozen?_of_block (a := ⟨n0 + 1, 0, none⟩) (hG.block (n0 + 1) hl (by simp; omega))).trans f3) (by omega) (by omega) hq2
 | ok ts j =>
   have hnod := rd_nodes _ _ _ _ _ _ hr0.out
   have hprog := calls_kids hprog
   go_wp2_with (go_at_call 21; refine (hprog).mono ?_; rintro e w3 ⟨v3, rfl, hK3, hR3, hG3⟩; obtain ⟨kb, kc, rfl, hKK⟩ := hK3.kids hRd.lt)
   have hjl := hR3.le
   have hcnt : (flatTs ts 1).length <= 8193 := by
     have e := flatTs_length 1 0 ts
     have h2 : 0 + nodes ts <= j + 0 := hnod
     have h3 : j <= (goodOf (pieces s)).length := hjl
     unfold nodes at h2
     omega
   have hgA := World.grownBy_alloc w1 (Obj.cells #[Value.slice sb (goodOf (pieces s)).length sc, Value.int IntKind.i64 0, Value.int IntKind.i64 ↑s.size] 58) (some w1.heap.size)
   have hG : w1.grownBy w3 (some w1.heap.size) := grown_trans hgA hG3
   have hsA : w1.heap.size + 1 <= w3.heap.size := by have := hG3.size; simpa using this
   have d2 : w3.cell? ⟨n0, 0, none⟩ = some (.slice none 0 0) := hG.cell c2 (by simp; omega)
   have e2 : w3.frozen? ⟨n0, 0, none⟩ = false := (World.frozen?_of_block (a := ⟨n0, 0, none⟩) (hG.block n0 (by omega) (by simp; omega))).trans f2
   obtain ⟨g, q, hb1, hb2, hb3, hb4, hb5⟩ := hKK
   have HG := Lib.hid hG
   have HB1 := Lib.hid hb1
   have HB2 := Lib.hid hb2
   have HB4 := Lib.hid hb4
   have HB5 := Lib.hid hb5
   have hn3 : n0 < w3.heap.size := by omega
   have HZ : Hid (∀ (x : World) {b : Option Addr} {c : Nat} {l : List Nd}, FlI n0 w3 x b c l -> x.cell? ⟨0, 0, none⟩ = some (.iface te pe)) := by
     intro x b c l hx
     have hz0 := World.block_lt_of_cell? w1 ⟨0, 0, none⟩ ce
     have h0 : (0 : Nat) ≠ n0 := by rintro rfl; rw [c2] at ce; cases ce
     exact (World.cell?_of_block (a := ⟨0, 0, none⟩) (hx.keep 0 (by omega) h0)).trans (hG.cell ce (by simp; omega))
   have HW : Hid (∀ (x : World) {b : Option Addr} {c : Nat} {l : List Nd}, FlI n0 w3 x b c l -> Kin w x /\ x.cell? ⟨n0 + 1, 0, none⟩ = some .nilIface /\ x.frozen? ⟨n0 + 1, 0, none⟩ = false /\ n0 + 1 < x.heap.size) := by
     intro x b c l hx
     have hk := HK.out
     have hn := HN.out
     have s0 := hk.size
     have s1 := hG.size
     have s2 := hx.size
     refine ⟨⟨(hx.os.trans hG.os).trans hk.os, (hx.out.trans hG.output).trans hk.out, by omega, fun y hy => (hx.keep y (by omega) (by omega)).trans ((hG.block y (by omega) (by simp; omega)).trans (hk.block y hy))⟩, ?_, ?_, by omega⟩
     · exact (World.cell?_of_block (a := ⟨n0 + 1, 0, none⟩) (hx.keep (n0 + 1) (by omega) (by omega))).trans (hG.cell c3 (by simp; omega))
     · exact (World.frozen?_of_block (a := ⟨n0 + 1, 0, none⟩) (hx.keep (n0 + 1) (by omega) (by omega))).trans ((World.frozen?_of_block (a := ⟨n0 + 1, 0, none⟩) (hG.block (n0 + 1) hl (by simp; omega))).trans f3)
   clear hK3 hG3 hgA hG hb1 hb2 hb4 hb5 hprog hRd hR3 hnod hr0
   go_loopg [33] ts.length (fun gg x wr => ∃ (k : Nat) (b : Option Addr) (c : Nat), x = .int .i64 k /\ k <= ts.length /\ gg = ts.length - k /\ FlI n0 w3 wr b c (flatTs (ts.take k) 1))
   case atStart => exact ⟨0, none, 0, rfl, Nat.zero_le _, rfl, d2, e2, World.ownsRow_nil _ _ _ _, rfl, rfl, Nat.le_refl _, fun _ _ _ => rfl⟩
   case round =>
     obtain ⟨k, b, c, rfl, hk, hgg, hI⟩ := hrel
     have HI := Lib.hid hI
     have HGG := Lib.hid hgg
     have x1 := hI.cell
     have x2 := hI.froz
     clear hI hgg d2 e2 c2 c3 f2 f3 ce
     by_cases hlt : k < ts.length
     · have hkb : k < 100000 := by have := flatTs_ge 1 ts; omega
       obtain ⟨u, hu⟩ : ∃ u, ts[k]? = some u := ⟨_, List.getElem?_eq_getElem hlt⟩
       have hne : ts ≠ [] := by rintro rfl; simp at hlt
       have hbe := HB1.out hne
       subst hbe
       have hTu := HB5.out k u hu
       have hOld : ∀ y, ¬ Old (ctxOf s te pe w1.heap.size (Value.slice sb (goodOf (pieces s)).length sc)) (w1.alloc (Obj.cells #[Value.slice sb (goodOf (pieces s)).length sc, Value.int IntKind.i64 0, Value.int IntKind.i64 ↑s.size] 58)) y -> w1.heap.size + 1 <= y := by
         intro y hy
         unfold Old at hy
         simp at hy
         omega
       have hgn : g ≠ n0 := by have := hOld g (HB2.out hne); omega
       have hgl := World.block_lt_of_cell? w3 ⟨g, k, none⟩ (HB4.out k u hu)
       have hcell : wr.cell? ⟨g, k, none⟩ = some (.pointer (some ⟨q k, 0, none⟩)) := (World.cell?_of_block (a := ⟨g, k, none⟩) (HI.out.keep g hgl hgn)).trans (HB4.out k u hu)
       have hcnt2 : (flatTs (ts.take k) 1).length + (flatT u 1).length <= (flatTs ts 1).length := by
         have e : ts = ts.take k ++ u :: ts.drop (k + 1) := by
           rw [List.getElem?_eq_getElem hlt] at hu
           rw [<- Option.some.inj hu, List.getElem_cons_drop, List.take_append_drop]
         have e2 := congrArg (fun x => (flatTs x 1).length) e
         simp only [flatTs_append, flatTs, List.length_append] at e2
         omega
       have l3 := flatT_length 0 1 u
       have hTA : TrAt (fun y => w3.heap.size <= y \/ y < w1.heap.size + 1) w3 (q k) u := hTu.bound.mono fun y hy => by
         rcases hy with hy | hy
         · exact .inr hy
         · refine .inl ?_
           unfold Old
           simp
           omega
       have hcall := flat_any (w1.heap.size + 1) w3.heap.size w3 (Nat.le_refl _) (q k) u hTA wr _ _ 1 (fun y h1 h2 => HI.out.keep y h2 (by omega)) HI.out.size HI.out.own (by omega) (by omega) (by omega)
       have HU := Lib.hid hu
       clear hu hcnt2 l3 hTA hTu hOld
       go_wp2_with (go_at_call 22; refine (hcall).mono ?_; rintro e w' ⟨v', rfl, hb', ho'⟩; obtain ⟨b2, cc2, rfl⟩ := slice_of ho'; have y1 := (hb'.cell (p := ⟨n0, 0, none⟩) hn3).trans x1; have y2 := (hb'.frozen (p := ⟨n0, 0, none⟩) hn3).trans x2)
       have hst := HI.out.step hn3 hb' ho'
       go_roundg (ts.length - (k + 1))
       case measure => have := HGG.out; omega
       case rel =>
         have e : ts.take (k + 1) = ts.take k ++ [u] := by rw [List.take_add_one, HU.out]; rfl
         have e3 : flatTs (ts.take (k + 1)) 1 = flatTs (ts.take k) 1 ++ flatT u 1 := by rw [e, flatTs_append]; simp [flatTs]
         refine ⟨k + 1, b2, cc2, by go_num, by omega, rfl, ?_⟩
         rw [e3]
         rw [List.length_append] at hst
         exact hst
     · have hkk : k = ts.length := by omega
       subst hkk
       have hI := HI.out
       rw [List.take_length] at hI x1
       generalize hll : flatTs ts 1 = l at hI x1 hcnt
       have HLL := Lib.hid hll
       have HI2 := Lib.hid hI
       clear hll hI HI
       by_cases hm : 300 < l.length
       · have hdm : decide ((300 : Int) < (l.length : Int)) = true := by simp; omega
         obtain ⟨u, hu⟩ : ∃ u, l[300]? = some u := ⟨_, List.getElem?_eq_getElem hm⟩
         have hz : wr.cell? ⟨0, 0, none⟩ = some (.iface te pe) := HZ.out wr HI2.out
         obtain ⟨gb, rfl⟩ : ∃ gb, b = some ⟨gb, 0, none⟩ := by
           rcases HI2.out.own.2 with ⟨h1, h2⟩ | ⟨g', cap, cur, h1, _⟩
           · omega
           · exact ⟨g', by simp at h1; exact h1.1⟩
         have hc5 : wr.cell? ⟨gb, 1805, none⟩ = some (.int .i64 u.at_) := by
           have := HI2.out.own.cells rfl 1805 (.int .i64 u.at_) ((nd_get hu 5 (by omega)).trans rfl)
           rw [show ((⟨gb, 0, none⟩ : Addr).add 1805) = ⟨gb, 1805, none⟩ from by unfold Addr.add; split <;> simp_all] at this
           exact this
         go_wp2_with (go_at_call 19; refine (refused_any 32 u.at_ te pe _ hz).mono ?_; rintro e w' ⟨rfl, rfl⟩)
         rw [<- HQ.out]
         obtain ⟨kw, z3, zf3, zl⟩ := HW.out wr HI2.out
         have g4 := World.grownBy_alloc wr (Obj.cells #[Value.int IntKind.i64 32, Value.int IntKind.i64 u.at_, Value.iface te pe] 78) none
         have e : outOfRes (Res.ok ts j) = .fault 32 u.at_ := by
           show outOf (flatTs ts 1) = _
           rw [HLL.out]
           unfold outOf
           rw [if_pos hm, hu]
           rfl
         rw [e]
         have s4 := g4.size
         exact leave_fault te pe w _ _ n0 wr.heap.size 32 u.at_ _ _ _ rfl rfl HN.out ⟨kw.os, kw.out, Nat.le_trans kw.size s4, fun x hx => (g4.block x (by have := kw.size; omega) (by simp)).trans (kw.block x hx)⟩
           (g4.cell x1 (by simp)) (g4.cell z3 (by simp)) ((World.frozen?_of_block (a := ⟨n0, 0, none⟩) (g4.block n0 (by omega) (by simp))).trans x2) ((World.frozen?_of_block (a := ⟨n0 + 1, 0, none⟩) (g4.block (n0 + 1) zl (by simp))).trans zf3) (by omega) (by omega) (heap_alloc_new wr _)
       · have hdm : decide ((300 : Int) < (l.length : Int)) = false := by simp; omega
         go_wp2
         obtain ⟨kw, z3, zf3, zl⟩ := HW.out wr HI2.out
         have hz : wr.cell? ⟨0, 0, none⟩ = some (.iface te pe) := HZ.out wr HI2.out
         have hz0 := World.block_lt_of_cell? wr ⟨0, 0, none⟩ hz
         have HKW := Lib.hid kw
         clear kw
         obtain ⟨wo, rfl⟩ : ∃ wo : World, wo = wr := ⟨_, rfl⟩
         go_loopg [52] l.length (fun gg x wq => ∃ k : Nat, x = .int .i64 k /\ k <= l.length /\ gg = l.length - k /\ Below wo.heap.size wo wq /\ ∀ (i : Nat) (n : Nd), i < k -> l[i]? = some n -> ¬ 24 < n.depth)
         case atStart => exact ⟨0, rfl, Nat.zero_le _, rfl, Below.refl _ _, fun i n hi => by omega⟩
         case round =>
           obtain ⟨k, rfl, hk2, hgg, hbq, hsmall⟩ := hrel
           have HBQ := Lib.hid hbq
           have HSM := Lib.hid hsmall
           have HGG2 := Lib.hid hgg
           clear hbq hsmall hgg
           by_cases hlk : k < l.length
           · obtain ⟨u, hu⟩ : ∃ u, l[k]? = some u := ⟨_, List.getElem?_eq_getElem hlk⟩
             obtain ⟨gb, rfl⟩ : ∃ gb, b = some ⟨gb, 0, none⟩ := by
               rcases HI2.out.own.2 with ⟨h1, h2⟩ | ⟨g', cap, cur, h1, _⟩
               · omega
               · exact ⟨g', by simp at h1; exact h1.1⟩
             have hgl := (HI2.out.own.lt gb rfl).2
             have cells : ∀ o v, o < 6 -> u.cells[o]? = some v -> wr.cell? ⟨gb, k * 6 + o, none⟩ = some v := by
               intro o v ho hv
               have := HI2.out.own.cells rfl (k * 6 + o) v ((nd_get hu o ho).trans hv)
               rw [show ((⟨gb, 0, none⟩ : Addr).add (k * 6 + o)) = ⟨gb, k * 6 + o, none⟩ from by unfold Addr.add; split <;> simp_all] at this
               exact (HBQ.out.cell (p := ⟨gb, k * 6 + o, none⟩) hgl).trans this
             have r0 := cells 0 _ (by omega) rfl
             have r1 := cells 1 _ (by omega) rfl
             have r2 := cells 2 _ (by omega) rfl
             have r3 := cells 3 _ (by omega) rfl
             have r4 := cells 4 _ (by omega) rfl
             have r5 := cells 5 _ (by omega) rfl
             simp only [Nat.add_zero] at r0
             have hzq : wr.cell? ⟨0, 0, none⟩ = some (.iface te pe) := (HBQ.out.cell (p := ⟨0, 0, none⟩) hz0).trans hz
             have HU := Lib.hid hu
             have sq := HBQ.out.size
             clear cells hu
             by_cases hd : (24 : Int) < u.depth
             · have hdd : decide ((24 : Int) < u.depth) = true := by simp [hd]
               have HD := Lib.hid hd
               clear hd
               go_wp2_with (go_at_call 19; refine (refused_any 31 u.at_ te pe _ (by first | exact hzq | simpa using hzq | exact (World.grownBy_alloc wr _ none).cell hzq (by simp))).mono ?_; rintro e w' ⟨rfl, rfl⟩)
               rw [<- HQ.out]
               have hout : outOfRes (Res.ok ts j) = .fault 31 u.at_ := by
                 show outOf (flatTs ts 1) = _
                 rw [HLL.out]
                 unfold outOf
                 rw [if_neg hm]
                 have : l.find? (fun n => decide (24 < n.depth)) = some u := by
                   rw [List.find?_eq_some_iff_getElem]
                   refine ⟨by simpa using HD.out, k, hlk, ?_, fun i hi => ?_⟩
                   · have := HU.out
                     rw [List.getElem?_eq_getElem hlk] at this
                     exact Option.some.inj this
                   · have := HSM.out i (l[i]'(by omega)) hi (List.getElem?_eq_getElem (by omega))
                     simpa using this
                 rw [this]
               rw [hout]
               have kw := HKW.out
               have skw := kw.size
               have hn := HN.out
               have g4 := World.grownBy_alloc wr (Obj.cells #[Value.int IntKind.i64 u.depth, Value.int IntKind.i64 u.kind, Value.string u.name, Value.int IntKind.i64 u.num, Value.int IntKind.i64 u.op, Value.int IntKind.i64 u.at_] 26) none
               have g5 := World.grownBy_alloc (wr.alloc (Obj.cells #[Value.int IntKind.i64 u.depth, Value.int IntKind.i64 u.kind, Value.string u.name, Value.int IntKind.i64 u.num, Value.int IntKind.i64 u.op, Value.int IntKind.i64 u.at_] 26)) (Obj.cells #[Value.int IntKind.i64 31, Value.int IntKind.i64 u.at_, Value.iface te pe] 78) none
               have g6 := grown_trans g4 g5
               have s6 := g6.size
               have w3s := HI2.out.size
               have y1 : wr.cell? ⟨n0, 0, none⟩ = _ := (HBQ.out.cell (p := ⟨n0, 0, none⟩) (by show n0 < _; omega)).trans x1
               have y2 : wr.frozen? ⟨n0, 0, none⟩ = false := (HBQ.out.frozen (p := ⟨n0, 0, none⟩) (by show n0 < _; omega)).trans x2
               have y3 : wr.cell? ⟨n0 + 1, 0, none⟩ = some .nilIface := (HBQ.out.cell (p := ⟨n0 + 1, 0, none⟩) zl).trans z3
               have y4 : wr.frozen? ⟨n0 + 1, 0, none⟩ = false := (HBQ.out.frozen (p := ⟨n0 + 1, 0, none⟩) zl).trans zf3
               exact leave_fault te pe w _ _ n0 (wr.heap.size + 1) 31 u.at_ _ _ _ rfl rfl hn ⟨HBQ.out.os.trans kw.os, HBQ.out.output.trans kw.out, by omega, fun x hx => (g6.block x (by omega) (by simp)).trans ((HBQ.out.block x (by omega)).trans (kw.block x hx))⟩
                 (g6.cell y1 (by simp)) (g6.cell y3 (by simp)) ((World.frozen?_of_block (a := ⟨n0, 0, none⟩) (g6.block n0 (by omega) (by simp))).trans y2) ((World.frozen?_of_block (a := ⟨n0 + 1, 0, none⟩) (g6.block (n0 + 1) (by omega) (by simp))).trans y4) (by omega) (by omega) (by simpa using heap_alloc_new (wr.alloc (Obj.cells #[Value.int IntKind.i64 u.depth, Value.int IntKind.i64 u.kind, Value.string u.name, Value.int IntKind.i64 u.num, Value.int IntKind.i64 u.op, Value.int IntKind.i64 u.at_] 26)) (Obj.cells #[Value.int IntKind.i64 31, Value.int IntKind.i64 u.at_, Value.iface te pe] 78))
             · have hdd : decide ((24 : Int) < u.depth) = false := by simp; omega
               have HD := Lib.hid hd
               clear hd
               go_wp2
               go_roundg (l.length - (k + 1))
               case measure => have := HGG2.out; omega
               case rel =>
                 refine ⟨k + 1, by go_num, by omega, rfl, HBQ.out.alloc sq _, fun i n hi hin => ?_⟩
                 by_cases hik : i = k
                 · subst hik
                   rw [HU.out] at hin
                   cases hin
                   exact HD.out
                 · exact HSM.out i n (by omega) hin
           · have hI := HI2.out
             have y1 : wr.cell? ⟨n0, 0, none⟩ = some (.slice b l.length c) := (HBQ.out.cell (p := ⟨n0, 0, none⟩) (by have := hI.size; show n0 < _; omega)).trans x1
             have y2 : wr.frozen? ⟨n0, 0, none⟩ = false := (HBQ.out.frozen (p := ⟨n0, 0, none⟩) (by have := hI.size; show n0 < _; omega)).trans x2
             have y3 : wr.cell? ⟨n0 + 1, 0, none⟩ = some .nilIface := (HBQ.out.cell (p := ⟨n0 + 1, 0, none⟩) zl).trans z3
             have y4 : wr.frozen? ⟨n0 + 1, 0, none⟩ = false := (HBQ.out.frozen (p := ⟨n0 + 1, 0, none⟩) zl).trans zf3
             have HIH := Lib.hid hI
             clear hI
             go_wp2
             rw [<- HQ.out]
             have hn := HN.out
             have kw := HKW.out
             have sq := HBQ.out.size
             have skw := kw.size
             have hkl : k = l.length := by omega
             have hout : outOfRes (Res.ok ts j) = .tree l := by
               show outOf (flatTs ts 1) = _
               rw [HLL.out]
               unfold outOf
               rw [if_neg hm]
               have : l.find? (fun n => decide (24 < n.depth)) = none := by
                 rw [List.find?_eq_none]
                 intro x hx hd
                 obtain ⟨i, hi, hix⟩ := List.getElem_of_mem hx
                 have h9 := HSM.out i x (by omega) (by rw [List.getElem?_eq_getElem hi, hix])
                 have h10 : 24 < x.depth := by simpa using hd
                 omega
               rw [this]
             rw [hout]
             have g1 := grown_set wr n0 0 (.slice b l.length c)
             have g2 := grown_set (wr.setCell ⟨n0, 0, none⟩ (.slice b l.length c)) (n0 + 1) 0 .nilIface
             have p2 : ((wr.setCell ⟨n0, 0, none⟩ (.slice b l.length c)).setCell ⟨n0 + 1, 0, none⟩ .nilIface).cell? ⟨n0, 0, none⟩ = some (.slice b l.length c) := by simp [go_sem, y1]
             have p3 : ((wr.setCell ⟨n0, 0, none⟩ (.slice b l.length c)).setCell ⟨n0 + 1, 0, none⟩ .nilIface).cell? ⟨n0 + 1, 0, none⟩ = some .nilIface := by simp [go_sem, y3]
             have s1 := g1.size
             have s2 := g2.size
             refine leave_tree te pe w _ _ n0 l b c rfl rfl ⟨(HBQ.out.os.trans kw.os), (HBQ.out.output.trans kw.out), by omega, fun x hx => ?_⟩ p2 p3 ?_
             · exact (g2.block x (by omega) (by simp; omega)).trans ((g1.block x (by omega) (by simp; omega)).trans ((HBQ.out.block x (by omega)).trans (kw.block x hx)))
             · have ho := HIH.out.own
               have w3s := HIH.out.size
               have hrow := fun y (hy : (Value.slice b l.length c).ownBlock = some y) => ho.lt y hy
               have ho1 : wr.ownsRow w3.heap.size 26 6 (.slice b l.length c) l.length (ndCells l) := by
                 refine ⟨ho.1, ho.2.imp id fun ⟨g', cap, cur, h1, h2, h3, h4⟩ => ⟨g', cap, cur, h1, h2, ?_, h4⟩⟩
                 rw [HBQ.out.block g' (Array.getElem?_eq_some_iff.1 h3).1]
                 exact h3
               have ne2 : ∀ z : Nat, z <= n0 + 1 -> z < w3.heap.size -> ((Value.slice b l.length c).ownBlock = none \/ (Value.slice b l.length c).ownBlock ≠ some z) := fun z h1 h2 => by
                 cases hv : (Value.slice b l.length c).ownBlock with
                 | none => exact .inl rfl
                 | some y => right; have := hrow y hv; simp; omega
               have ho2 := (ho1.kept g1 (ne2 n0 (by omega) hn3)).kept g2 (ne2 (n0 + 1) (by omega) (by omega))
               exact ⟨ho2.1, ho2.2.imp id fun ⟨g', cap, cur, h1, h2, h3⟩ => ⟨g', cap, cur, h1, by omega, h3⟩⟩
end Go.Proofs.YtonmcakdofbjiaaDoor
namespace Go.Proofs.YtonmcakdofbjiaaDoor
open Go.RowKit Go.Bsd
theorem rd_ctx {C C' : Ctx} (hl : C.l = C'.l) (he : C.e = C'.e) : ∀ (f : Nat) (nt : NT) (i : Nat), rd C f nt i = rd C' f nt i := by
 intro f
 induction f with
 | zero => intro nt i; cases nt <;> rfl
 | succ f ih =>
   intro nt i
   have h1 : ∀ s i, wantR C s i = wantR C' s i := fun s i => by unfold wantR; rw [hl, he]
   have h2 : ∀ i, nameR C i = nameR C' i := fun i => by unfold nameR; rw [hl, he]
   have h3 : ∀ i, numberR C i = numberR C' i := fun i => by unfold numberR; rw [hl, he]
   cases nt <;> simp only [rd, ih, h1, h2, h3, hl, he] <;> rfl
def ctx0 (s : ByteArray) : Ctx := ⟨goodOf (pieces s), s.size, 0, undef, 0, 0⟩
def ParsesTo (s : ByteArray) (o : POut) : Prop :=
 if 8192 < s.size then o = .fault 21 8192
 else if (badOf (pieces s)).1 ≠ 0 then o = .fault (badOf (pieces s)).1 (badOf (pieces s)).2
 else ∃ f r, rd (ctx0 s) f .prog 0 = some r /\ o = outOfRes r
theorem run_callf {f : FuncId} {fn : Func} (hf : Tryd.prog.funcs[f]? = some fn) (hn : (fn.name == "runtime.NumGoroutine") = false) (hb : fn.body.isNone = false) {o : Oper} {ags : Array Operand} {ts : Array TypeId} (ho : o.op = .call { callee := .value (.func f), args := ags, argTypes := ts }) (a : Act) (w : World) :
   (execOp a.eval o).run Tryd.prog w = .ok (.enter f (ags.map a.eval)) w := by
 unfold execOp
 rw [ho]
 simp [resolve, Deferred.ofValue, Act.eval, evalT, invoke]
 exact callFunc_of hf hn hb _ w
theorem listB_fn (hP : TameProg Tryd.prog) {Q : Exit -> Act -> World -> Prop} {a : Act} {w : World} {ops : Array Oper} {o : Oper} {l : List Oper} {f : FuncId} {fn : Func} {ags : Array Operand} {ts : Array TypeId} {args : Array Value} (hf : Tryd.prog.funcs[f]? = some fn) (hn : (fn.name == "runtime.NumGoroutine") = false) (hb : fn.body.isNone = false)
   (hw : Region.wanted o (yielded ops a.tmps) = true) (ho : o.op = .call { callee := .value (.func f), args := ags, argTypes := ts }) (ha : ags.map a.eval = args)
   (h : CallsB Tryd.prog f args w fun
     | .returned v, w' => listB Tryd.prog ops Q l (a.put o.dst v) w'
     | .panicked chain, w' => Q (.panic chain) a w'
     | .outgrown, _ => False) : listB Tryd.prog ops Q (o :: l) a w := by
 subst ha
 exact listB_call hP hw (fun T d => run_callf hf hn hb ho a _) h
noncomputable def pk1 : Code := seqL (seqR pk0)
theorem pk1_is : ∃ id, pk1 = .region id (regOps pk1) false := ⟨_, rfl⟩
theorem parse_any (hP : TameProg Tryd.prog) (s : ByteArray) (hs : s.size <= 9223372036854775807) (te : TypeId) (pe : Value) (w : World) (hv : VarsOk w) (ce : w.cell? ⟨0, 0, none⟩ = some (.iface te pe)) (o : POut) (ho : ParsesTo s o) :
   CallsB Tryd.prog 10 #[.string s] w (ParPost te pe w o) := by
 refine callsB_of_tailB Tryd.func10 (c := pk0) rfl ?_
 have e0 : pk0 = .seq (seqL pk0) (.seq pk1 pk2) := rfl
 rw [e0]
 have ha : (#[Value.string s] ++ Array.replicate (Tryd.f10.ntmps - #[Value.string s].size) undef) = #[.string s, undef, undef, undef, undef, undef, undef, undef, undef, undef, undef, undef, undef, undef, undef, undef, undef, undef, undef, undef, undef, undef, undef, undef, undef, undef, undef, undef, undef, undef, undef, undef, undef, undef, undef, undef, undef, undef, undef, undef, undef, undef, undef, undef, undef, undef, undef, undef, undef, undef, undef, undef, undef, undef, undef, undef, undef, undef, undef, undef, undef, undef, undef, undef, undef] := by
   simp only [Tryd.ntmps10]
   simp [Array.replicate_succ]
 rw [ha]
 have hR : ∀ w', ¬ ParPost te pe w o .outgrown w' := fun w' h => h
 refine tailB_seq hP Tryd.func10 hR (wpB_lift hP fun T d => ?_)
 generalize hB : bodyPost Tryd.prog Tryd.f10 (ParPost te pe w o) = B
 generalize hY : (Code.seq pk1 pk2) = Y
 have HV := Lib.hid hv
 have HO := Lib.hid ho
 have HCE := Lib.hid ce
 clear hv ho ce
 simp only [seqL, pk0, Tryd.f10, Option.getD_some]
 go_wp2
 subst hY
 rw [show (((re w T d).alloc (Obj.cells #[Value.slice none 0 0] 22)).alloc (Obj.cells #[Value.nilIface] 36)) = re ((w.alloc (Obj.cells #[Value.slice none 0 0] 22)).alloc (Obj.cells #[Value.nilIface] 36)) T d from rfl]
 subst hB
 generalize hW : (w.alloc (Obj.cells #[Value.slice none 0 0] 22)).alloc (Obj.cells #[Value.nilIface] 36) = W
 have k1 : Kin w W := by
   have g1 := World.grownBy_alloc w (Obj.cells #[Value.slice none 0 0] 22) none
   have g2 := World.grownBy_alloc (w.alloc (Obj.cells #[Value.slice none 0 0] 22)) (Obj.cells #[Value.nilIface] 36) none
   have s1 := g1.size
   have s2 := g2.size
   subst hW
   exact ⟨rfl, rfl, by omega, fun k hk => (g2.block k (by omega) (by simp)).trans (g1.block k hk (by simp))⟩
 have c2 : W.cell? ⟨w.heap.size, 0, none⟩ = some (.slice none 0 0) := by subst hW; simp [go_sem]
 have c3 : W.cell? ⟨w.heap.size + 1, 0, none⟩ = some .nilIface := by subst hW; simp [go_sem]
 have f2 : W.frozen? ⟨w.heap.size, 0, none⟩ = false := by subst hW; simp [go_sem]
 have f3 : W.frozen? ⟨w.heap.size + 1, 0, none⟩ = false := by subst hW; simp [go_sem]
 have l3 : w.heap.size + 1 < W.heap.size := by subst hW; simp
 have hz : 0 < w.heap.size := World.block_lt_of_cell? w ⟨0, 0, none⟩ HCE.out
 clear hW ha e0
 intro cs
 refine Bes.tape (T := T) (d := d) ?_
 revert cs
 show tailB Tryd.prog 10 _ _ _ W
 refine tailB_seq hP Tryd.func10 hR ?_
 obtain ⟨id, hid⟩ := pk1_is
 rw [hid]
 generalize hB : bodyPost Tryd.prog Tryd.f10 (ParPost te pe w o) = B
 clear hB hid
 generalize hX : pk2 = X
 simp only [pk1, pk0, seqL, seqR, regOps, Tryd.f10, Option.getD_some]
 subst hX
 refine wpB_region hP (l := [_, _, _, _, _, _, _, _, _]) ?_
 refine listB_cut hP [_] [_, _, _, _, _, _, _, _] fun T d => ?_
 generalize hN : listB Tryd.prog _ _ _ = N
 go_wp2
 subst hN
 refine listB_tape ?_
 refine listB_fn hP Tryd.func18 (by kernel_rfl) (by kernel_rfl) rfl rfl (args := #[.string s]) (by simp [Act.eval, evalT]) ((tokens_any hP s hs W (HV.out.kin k1)).mono ?_)
 rintro e w1 hpost
 cases e with
 | outgrown => exact hpost.elim
 | panicked _ => exact hpost.elim
 | returned v =>
   obtain ⟨kin, hres⟩ := hpost
   have kw : Kin w w1 := k1.trans kin
   have d2 : w1.cell? ⟨w.heap.size, 0, none⟩ = some (.slice none 0 0) := (kin.cell (by omega)).trans c2
   have d3 : w1.cell? ⟨w.heap.size + 1, 0, none⟩ = some .nilIface := (kin.cell l3).trans c3
   have g2 : w1.frozen? ⟨w.heap.size, 0, none⟩ = false := (kin.frozen (by omega)).trans f2
   have g3 : w1.frozen? ⟨w.heap.size + 1, 0, none⟩ = false := (kin.frozen l3).trans f3
   have l4 : w.heap.size + 1 < w1.heap.size := by have := kin.size; omega
   have ce1 : w1.cell? ⟨0, 0, none⟩ = some (.iface te pe) := (kw.cell hz).trans HCE.out
   have hsz := k1.size
   have hO := HO.out
   unfold ParsesTo at hO
   unfold TokRes at hres
   show listB Tryd.prog _ _ _ _ w1
   by_cases h1 : 8192 < s.size
   · rw [if_pos h1] at hres hO
     subst hres hO
     have hfin := fun T d => parse_bad s te pe w (re w1 T d) w.heap.size (.slice none 0 0) 21 8192 (by decide) rfl (Kin.mk kw.os kw.out kw.size kw.block) d2 d3 g2 g3 l4 ce1
     have HT := Lib.hid (tailB_lone hP Tryd.func10 hR hfin)
     clear hfin d2 d3 g2 g3 l4 ce1 kw kin h1 c2 c3 f2 f3 l3
     generalize hX : pk2 = X at HT ⊢
     clear hX
     generalize hN : Exit.then (tailB Tryd.prog 10 _ X) B = N
     refine listB_lift hP fun T d => ?_
     go_wp2
     subst hN
     exact HT.out
   · rw [if_neg h1] at hres hO
     by_cases h2 : (badOf (pieces s)).1 ≠ 0
     · rw [if_pos h2] at hres hO
       subst hres hO
       have hfin := fun T d => parse_bad s te pe w (re w1 T d) w.heap.size (.slice none 0 0) (badOf (pieces s)).1 (badOf (pieces s)).2 h2 rfl (Kin.mk kw.os kw.out kw.size kw.block) d2 d3 g2 g3 l4 ce1
       have HT := Lib.hid (tailB_lone hP Tryd.func10 hR hfin)
       clear hfin d2 d3 g2 g3 l4 ce1 kw kin h1 c2 c3 f2 f3 l3
       generalize hX : pk2 = X at HT ⊢
       clear hX
       generalize (badOf (pieces s)).1 = x1 at HT ⊢
       generalize (badOf (pieces s)).2 = x2 at HT ⊢
       generalize hN : Exit.then (tailB Tryd.prog 10 _ X) B = N
       refine listB_lift hP fun T d => ?_
       go_wp2
       subst hN
       exact HT.out
     · rw [if_neg h2] at hres hO
       obtain ⟨sl, rfl, hown⟩ := hres
       obtain ⟨f, r, hr, rfl⟩ := hO
       have hL : (goodOf (pieces s)).length <= 8193 := by
         have a1 := pieces_length s
         have a2 : (goodOf (pieces s)).length <= (pieces s).length := List.length_filter_le _ _
         omega
       have hfin := fun T d => parse_good s (by omega) te pe w (re w1 T d) w.heap.size f sl 0 r ((rd_ctx (C := ctxOf s te pe w1.heap.size sl) (C' := ctx0 s) rfl rfl f .prog 0).trans hr) rfl (Kin.mk kw.os kw.out kw.size kw.block) d2 d3 g2 g3 l4 ce1 W.heap.size hown hL
       have HT := Lib.hid (tailB_lone hP Tryd.func10 hR hfin)
       clear hfin d2 d3 g2 g3 l4 ce1 kw kin h1 c2 c3 f2 f3 l3 hown hr
       generalize hX : pk2 = X at HT ⊢
       clear hX
       generalize hN : Exit.then (tailB Tryd.prog 10 _ X) B = N
       refine listB_lift hP fun T d => ?_
       go_wp2
       subst hN
       exact HT.out
end Go.Proofs.YtonmcakdofbjiaaDoor
