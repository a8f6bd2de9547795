/-
  winnowlaw03.ParseNests answers true at every number: the row, and the tied card. Conditions: those of the given statement.
-/
import Derived.Test.YtonmcakdofbjiaaGreatDoorProg
import Derived.WalkKit
import Derived.LaidEql
import Derived.Stop.Asserts
import Derived.RowKitTokens
import Derived.Test.YtonmcakdofbjiaaGreatDoorV26
import Derived.OwnWalk
import Derived.Test.YtonmcakdofbjiaaGreatDoorV19
import Derived.LaidHandle
import Derived.Test.YtonmcakdofbjiaaGreatDoorV25
import Derived.Test.YtonmcakdofbjiaaGreatDoorV29
import Derived.Test.YtonmcakdofbjiaaGreatDoorV18
import Derived.Test.YtonmcakdofbjiaaGreatDoorTie
import Derived.Test.YtonmcakdofbjiaaGreatDoorCards
set_option linter.unusedVariables false
set_option linter.unusedSimpArgs false
set_option linter.unusedSectionVars false
set_option linter.unnecessarySimpa false
set_option maxRecDepth 100000
set_option maxHeartbeats 8000000
namespace Go.Proofs.YtonmcakdofbjiaaGreatDoor
open Go.RowKit Go.Extern.Stop Go.Stop Go.Extern
theorem As.valueOf27 (t : Addr) (w : World) : (ReflectliteValue.unpack (.iface 116 (.pointer (some t)))).run Tryz.prog w
   = .ok (.agg #[.pointer (some ⟨10, 116, none⟩), .pointer (some ⟨w.heap.size, 0, none⟩), .int .u64 150]) (w.alloc (.cells #[.pointer (some t)] 116)) := by kernel_rfl
theorem As.type27 (a : Addr) (w : World) : (ReflectliteValue.methodAny (ReflectliteValue.valueError "reflectlite.Value.Type" 0) (fun t _ _ _ => ReflectliteType.toType t) #[.agg #[.pointer (some ⟨10, 116, none⟩), .pointer (some a), .int .u64 150]]).run Tryz.prog w
   = .ok (.iface 163 (.agg #[.pointer (some ⟨10, 116, none⟩)])) w := by kernel_rfl
theorem As.methodKind (h : Value) (w : World) : (Go.method 382 163 (.agg #[h]) "Kind").run Tryz.prog w = .ok (209, h) w := by kernel_rfl
theorem As.kind27 (w : World) : ((ReflectliteType.abiMethod fun t => (fun a : Nat => Value.int IntKind.u8 (a : Int)) <$> Rtype.kind t) #[.pointer (some ⟨10, 116, none⟩)]).run Tryz.prog w = .ok (.int .u8 22) w := by kernel_rfl
theorem As.kind25 (w : World) : ((ReflectliteType.abiMethod fun t => (fun a : Nat => Value.int IntKind.u8 (a : Int)) <$> Rtype.kind t) #[.pointer (some ⟨10, 71, none⟩)]).run Tryz.prog w = .ok (.int .u8 22) w := by kernel_rfl
theorem rlm (z : Sem Value) (f : TypeId -> Addr -> Nat -> Nat -> Sem Value) (v : Value) :
   ReflectliteValue.method z f #[v] = (do match <- ReflectliteValue.parts v with | none => z | some (t, a, fl) => f t a fl (fl % 32)) := rfl
theorem As.parts27 (a : Addr) (w : World) : (ReflectliteValue.parts (.agg #[.pointer (some ⟨10, 116, none⟩), .pointer (some a), .int .u64 150])).run Tryz.prog w = .ok (some (116, a, 150)) w := by kernel_rfl
theorem As.isNil27 (a p : Addr) (W : World) (ha : W.cell? a = some (.pointer (some p))) :
   (ReflectliteValue.method (ReflectliteValue.valueError "reflectlite.Value.IsNil" 0) ReflectliteValue.isNil #[.agg #[.pointer (some ⟨10, 116, none⟩), .pointer (some a), .int .u64 150]]).run Tryz.prog W = .ok (.bool false) W := by
 rw [rlm]
 simp only [Sem.run_bind, As.parts27, Result.andThen]
 simp [ReflectliteValue.isNil, loadVar, isAgg, underlying, Tryz.underlying116, ha, Result.andThen]
theorem As.methodElem (h : Value) (w : World) : (Go.method 382 163 (.agg #[h]) "Elem").run Tryz.prog w = .ok (218, .agg #[h]) w := by kernel_rfl
theorem As.methodImplements (h : Value) (w : World) : (Go.method 382 163 (.agg #[h]) "Implements").run Tryz.prog w = .ok (219, .agg #[h]) w := by kernel_rfl
theorem As.methodAssignableTo (h : Value) (w : World) : (Go.method 382 163 (.agg #[h]) "AssignableTo").run Tryz.prog w = .ok (216, .agg #[h]) w := by kernel_rfl
theorem As.elem27 (w : World) : (ReflectliteType.method ReflectliteType.elem #[.agg #[.pointer (some ⟨10, 116, none⟩)]]).run Tryz.prog w = .ok (.iface 163 (.agg #[.pointer (some ⟨10, 71, none⟩)])) w := by kernel_rfl
theorem As.implements25 (w : World) : (ReflectliteType.relation "Implements" ReflectliteType.implements_ #[.agg #[.pointer (some ⟨10, 71, none⟩)], .iface 163 (.agg #[.pointer (some ⟨10, 27, none⟩)])]).run Tryz.prog w = .ok (.bool true) w := by kernel_rfl
theorem As.typeOf25 (v : Value) (w : World) : (ReflectliteType.typeOf #[.iface 71 v]).run Tryz.prog w = .ok (.iface 163 (.agg #[.pointer (some ⟨10, 71, none⟩)])) w := by kernel_rfl
theorem As.assignable25 (w : World) : (ReflectliteType.relation "AssignableTo" ReflectliteType.assignableTo #[.agg #[.pointer (some ⟨10, 71, none⟩)], .iface 163 (.agg #[.pointer (some ⟨10, 71, none⟩)])]).run Tryz.prog w = .ok (.bool true) w := by kernel_rfl
theorem As.valueOf25 (e : Addr) (w : World) : (ReflectliteValue.unpack (.iface 71 (.pointer (some e)))).run Tryz.prog w
   = .ok (.agg #[.pointer (some ⟨10, 71, none⟩), .pointer (some ⟨w.heap.size, 0, none⟩), .int .u64 150]) (w.alloc (.cells #[.pointer (some e)] 71)) := by kernel_rfl
theorem As.elemOf27 (w : World) : (Rtype.elem? 116).run Tryz.prog w = .ok (some 71) w := by kernel_rfl
theorem As.mk25 (p : Addr) (w : World) : (ReflectliteValue.mk 71 p ReflectliteValue.flagAddr).run Tryz.prog w = .ok (.agg #[.pointer (some ⟨10, 71, none⟩), .pointer (some p), .int .u64 406]) w := by kernel_rfl
theorem As.elemV27 (a p : Addr) (W : World) (ha : W.cell? a = some (.pointer (some p))) :
   (ReflectliteValue.method (ReflectliteValue.valueError "reflectlite.Value.Elem" 0) ReflectliteValue.elem #[.agg #[.pointer (some ⟨10, 116, none⟩), .pointer (some a), .int .u64 150]]).run Tryz.prog W
     = .ok (.agg #[.pointer (some ⟨10, 71, none⟩), .pointer (some p), .int .u64 406]) W := by
 rw [rlm]
 simp only [Sem.run_bind, As.parts27, Result.andThen]
 simp [ReflectliteValue.elem, loadVar, isAgg, underlying, Tryz.underlying116, ha, Result.andThen, As.elemOf27, As.mk25]
theorem rls (v x : Value) : ReflectliteValue.set #[v, x] = (do
   let (some (dst, a, fl), some (src, b, _)) := (<- ReflectliteValue.parts v, <- ReflectliteValue.parts x)
     | unsupported (.noEntry "extern/(internal/reflectlite.Value).Set.zeroValue")
   if fl / ReflectliteValue.flagAddr % 2 == 0 then unsupported (.noEntry "extern/(internal/reflectlite.Value).Set.unaddressable")
   let val <- loadVar src b
   if <- Rtype.directlyAssignable dst src then storeVar dst a val
   else if <- Rtype.implements dst src then
     if (<- Rtype.kind src) == 20 then
       match val with
       | .nilIface => unsupported (.noEntry "extern/reflectlite: a nil value of one interface type handed on as a value of another")
       | _ => storeVar dst a val
     else storeVar dst a (.iface src val)
   else panicString ("reflectlite.Set: value of type " ++ (<- Rtype.spelt src) ++ " is not assignable to type " ++ (<- Rtype.spelt dst))
   pure (.tuple #[])) := rfl
theorem As.parts25a (a : Addr) (w : World) : (ReflectliteValue.parts (.agg #[.pointer (some ⟨10, 71, none⟩), .pointer (some a), .int .u64 406])).run Tryz.prog w = .ok (some (71, a, 406)) w := by kernel_rfl
theorem As.parts25 (a : Addr) (w : World) : (ReflectliteValue.parts (.agg #[.pointer (some ⟨10, 71, none⟩), .pointer (some a), .int .u64 150])).run Tryz.prog w = .ok (some (71, a, 150)) w := by kernel_rfl
theorem As.direct25 (w : World) : (Rtype.directlyAssignable 71 71).run Tryz.prog w = .ok true w := by kernel_rfl
theorem As.size25 (w : World) : (sizeOf 71).run Tryz.prog w = .ok 1 w := by kernel_rfl
theorem As.set25 (ta b e : Addr) (old : Value) (W : World) (hb : W.cell? b = some (.pointer (some e))) (ht : W.cell? ta = some old) (hf : W.frozen? ta = false) :
   (ReflectliteValue.set #[.agg #[.pointer (some ⟨10, 71, none⟩), .pointer (some ta), .int .u64 406], .agg #[.pointer (some ⟨10, 71, none⟩), .pointer (some b), .int .u64 150]]).run Tryz.prog W
     = .ok (.tuple #[]) (W.setCell ta (.pointer (some e))) := by
 rw [rls]
 simp only [Sem.run_bind, As.parts25a, As.parts25, Result.andThen]
 simp [ReflectliteValue.flagAddr, loadVar, isAgg, underlying, Tryz.underlying71, hb, Result.andThen, As.direct25, storeVar, Value.cells, storeCells, Addr.add]
 rw [run_store Tryz.prog W ta _ _ (by rfl)]
 simp [ht, hf]
theorem as_hit (e t : Addr) (old : Value) (w : World) (hg : w.cell? ⟨2, 0, none⟩ = some (.iface 163 (.agg #[.pointer (some ⟨10, 27, none⟩)]))) (ht0 : w.cell? t = some old) (hf0 : w.frozen? t = false) :
   Calls Tryz.prog 60 #[.iface 71 (.pointer (some e)), .iface 116 (.pointer (some t))] w fun ev w' => ev = .returned (.bool true) /\ w' = ((((w.alloc (.cells #[.pointer (some t)] 116)).alloc (.cells #[.pointer (some ⟨10, 116, none⟩), .pointer (some ⟨w.heap.size, 0, none⟩), .int .u64 150] 176)).alloc (.cells #[.pointer (some ⟨10, 116, none⟩), .pointer (some ⟨w.heap.size, 0, none⟩), .int .u64 150] 176)).alloc (.cells #[.pointer (some e)] 71)).setCell t (.pointer (some e)) := by
 have h6 := @run_callFunc_extern Tryz.prog 107 _ (fun args => ReflectliteValue.unpack (args.getD 0 (.tuple #[]))) Tryz.func107 (by kernel_rfl) (by kernel_rfl) (by kernel_rfl) (by kernel_rfl)
 have h7 := @run_callFunc_extern Tryz.prog 108 _ (ReflectliteValue.methodAny (ReflectliteValue.valueError "reflectlite.Value.Type" 0) (fun t _ _ _ => ReflectliteType.toType t)) Tryz.func108 (by kernel_rfl) (by kernel_rfl) (by kernel_rfl) (by kernel_rfl)
 have h8 := @run_callFunc_extern Tryz.prog 109 _ (ReflectliteValue.method (ReflectliteValue.valueError "reflectlite.Value.IsNil" 0) ReflectliteValue.isNil) Tryz.func109 (by kernel_rfl) (by kernel_rfl) (by kernel_rfl) (by kernel_rfl)
 have h27 := @run_callFunc_extern Tryz.prog 209 _ (ReflectliteType.abiMethod fun t => do pure (.int .u8 (<- Rtype.kind t))) Tryz.func209 (by kernel_rfl) (by kernel_rfl) (by kernel_rfl) (by kernel_rfl)
 have h37 := @run_callFunc_extern Tryz.prog 218 _ (ReflectliteType.method ReflectliteType.elem) Tryz.func218 (by kernel_rfl) (by kernel_rfl) (by kernel_rfl) (by kernel_rfl)
 have h38 := @run_callFunc_extern Tryz.prog 219 _ (ReflectliteType.relation "Implements" ReflectliteType.implements_) Tryz.func219 (by kernel_rfl) (by kernel_rfl) (by kernel_rfl) (by kernel_rfl)
 have h10 := @run_callFunc_extern Tryz.prog 58 _ ReflectliteType.typeOf Tryz.func58 (by kernel_rfl) (by kernel_rfl) (by kernel_rfl) (by kernel_rfl)
 have h35 := @run_callFunc_extern Tryz.prog 216 _ (ReflectliteType.relation "AssignableTo" ReflectliteType.assignableTo) Tryz.func216 (by kernel_rfl) (by kernel_rfl) (by kernel_rfl) (by kernel_rfl)
 have h11 := @run_callFunc_extern Tryz.prog 138 _ (ReflectliteValue.method (ReflectliteValue.valueError "reflectlite.Value.Elem" 0) ReflectliteValue.elem) Tryz.func138 (by kernel_rfl) (by kernel_rfl) (by kernel_rfl) (by kernel_rfl)
 have h12 := @run_callFunc_extern Tryz.prog 139 _ ReflectliteValue.set Tryz.func139 (by kernel_rfl) (by kernel_rfl) (by kernel_rfl) (by kernel_rfl)
 have tO := As.typeOf25
 have mA := As.methodAssignableTo
 have a25 := As.assignable25
 have v25 := As.valueOf25
 have f6 := As.valueOf27
 have f7 := As.type27
 have mK := As.methodKind
 have mE := As.methodElem
 have mI := As.methodImplements
 have k27 := As.kind27
 have k25 := As.kind25
 have e27 := As.elem27
 have i25 := As.implements25
 have n8 := As.isNil27 ⟨w.heap.size, 0, none⟩ t ((w.alloc (.cells #[.pointer (some t)] 116)).alloc (.cells #[.pointer (some ⟨10, 116, none⟩), .pointer (some ⟨w.heap.size, 0, none⟩), .int .u64 150] 176)) (by simp)
 have hlt : 2 < w.heap.size := World.block_lt_of_cell? w ⟨2, 0, none⟩ hg
 have hg2 : ((w.alloc (.cells #[.pointer (some t)] 116)).alloc (.cells #[.pointer (some ⟨10, 116, none⟩), .pointer (some ⟨w.heap.size, 0, none⟩), .int .u64 150] 176)).cell? ⟨2, 0, none⟩ = some (.iface 163 (.agg #[.pointer (some ⟨10, 27, none⟩)])) := by
   rw [World.cell?_alloc_lt _ _ ⟨2, 0, none⟩ (by simp; omega), World.cell?_alloc_lt _ _ ⟨2, 0, none⟩ hlt]; exact hg
 have htl : t.block < w.heap.size := by
   rcases Nat.lt_or_ge t.block w.heap.size with h | h
   · exact h
   · simp [World.cell?, Array.getElem?_eq_none h] at ht0
 have el := As.elemV27 ⟨w.heap.size, 0, none⟩ t (((w.alloc (.cells #[.pointer (some t)] 116)).alloc (.cells #[.pointer (some ⟨10, 116, none⟩), .pointer (some ⟨w.heap.size, 0, none⟩), .int .u64 150] 176)).alloc (.cells #[.pointer (some ⟨10, 116, none⟩), .pointer (some ⟨w.heap.size, 0, none⟩), .int .u64 150] 176)) (by rw [World.cell?_alloc_lt _ _ ⟨w.heap.size, 0, none⟩ (by simp; omega)]; simp)
 have st := As.set25 t ⟨w.heap.size + 1 + 1 + 1, 0, none⟩ e old ((((w.alloc (.cells #[.pointer (some t)] 116)).alloc (.cells #[.pointer (some ⟨10, 116, none⟩), .pointer (some ⟨w.heap.size, 0, none⟩), .int .u64 150] 176)).alloc (.cells #[.pointer (some ⟨10, 116, none⟩), .pointer (some ⟨w.heap.size, 0, none⟩), .int .u64 150] 176)).alloc (.cells #[.pointer (some e)] 71))
   (by rw [World.cell?_alloc_at _ _ _ _ (by simp)]; rfl)
   (by rw [World.cell?_alloc_lt _ _ t (by simp; omega), World.cell?_alloc_lt _ _ t (by simp; omega), World.cell?_alloc_lt _ _ t (by simp; omega), World.cell?_alloc_lt _ _ t htl]; exact ht0)
   (by rw [World.frozen?_alloc_old _ _ t (by simp; omega), World.frozen?_alloc_old _ _ t (by simp; omega), World.frozen?_alloc_old _ _ t (by simp; omega), World.frozen?_alloc_old _ _ t (Nat.ne_of_lt htl)]; exact hf0)
 go_enter Tryz.func60, Tryz.ntmps60
 go_wp2
 refine wp_loop_rounds 1 ?_
 rw [rounds_succ]
 go_wp2
 go_ret
 exact ⟨rfl, rfl⟩
end Go.Proofs.YtonmcakdofbjiaaGreatDoor
namespace Go.Proofs.YtonmcakdofbjiaaGreatDoor
open Go.RowKit
theorem told_nil (w : World) : Calls Tryz.prog 22 #[.nilIface] w fun e w' => e = .returned (.tuple #[.int .i64 0, .int .i64 0, .bool true]) /\ w' = w := by
 go_enter Tryz.func22, Tryz.ntmps22
 go_wp2
 go_ret3
 exact ⟨rfl, rfl⟩
def ErrTy (w : World) : Prop := w.cell? ⟨2, 0, none⟩ = some (.iface 163 (.agg #[.pointer (some ⟨10, 27, none⟩)]))
theorem ErrTy.kin {w w' : World} (h : ErrTy w) (k : Kin w w') : ErrTy w' := (k.cell (World.block_lt_of_cell? w _ h)).trans h
theorem as_told (e : Addr) (w : World) (hg : ErrTy w) : Calls Tryz.prog 60 #[.iface 71 (.pointer (some e)), .iface 116 (.pointer (some ⟨w.heap.size, 0, none⟩))] (w.alloc (.cells #[.pointer none] 71)) fun ev w' => ev = .returned (.bool true) /\ Kin w w' /\ w'.cell? ⟨w.heap.size, 0, none⟩ = some (.pointer (some e)) := by
 have hlt : 2 < w.heap.size := World.block_lt_of_cell? w ⟨2, 0, none⟩ hg
 refine (as_hit e ⟨w.heap.size, 0, none⟩ (.pointer none) (w.alloc (.cells #[.pointer none] 71)) ?_ (by simp) (by simp [go_sem])).mono ?_
 · rw [World.cell?_alloc_lt _ _ ⟨2, 0, none⟩ hlt]; exact hg
 · rintro ev w' ⟨rfl, rfl⟩
   refine ⟨rfl, ?_, ?_⟩
   · have k1 := (((((Kin.refl w).alloc (.cells #[.pointer none] 71)).alloc (.cells #[.pointer (some ⟨w.heap.size, 0, none⟩)] 116)).alloc (.cells #[.pointer (some ⟨10, 116, none⟩), .pointer (some ⟨(w.alloc (.cells #[.pointer none] 71)).heap.size, 0, none⟩), .int .u64 150] 176)).alloc (.cells #[.pointer (some ⟨10, 116, none⟩), .pointer (some ⟨(w.alloc (.cells #[.pointer none] 71)).heap.size, 0, none⟩), .int .u64 150] 176)).alloc (.cells #[.pointer (some e)] 71)
     have g := grown_set (((((w.alloc (.cells #[.pointer none] 71)).alloc (.cells #[.pointer (some ⟨w.heap.size, 0, none⟩)] 116)).alloc (.cells #[.pointer (some ⟨10, 116, none⟩), .pointer (some ⟨(w.alloc (.cells #[.pointer none] 71)).heap.size, 0, none⟩), .int .u64 150] 176)).alloc (.cells #[.pointer (some ⟨10, 116, none⟩), .pointer (some ⟨(w.alloc (.cells #[.pointer none] 71)).heap.size, 0, none⟩), .int .u64 150] 176)).alloc (.cells #[.pointer (some e)] 71)) w.heap.size 0 (.pointer (some e))
     have z := k1.size
     exact ⟨k1.os, k1.out, Nat.le_trans k1.size g.size, fun k hk => (g.block k (by omega) (by simp; omega)).trans (k1.block k hk)⟩
   · simp [go_sem]
theorem told_fault (q : Nat) (k p : Int) (b : Addr) (w : World) (h0 : w.cell? ⟨q, 0, none⟩ = some (.int .i64 k)) (h1 : w.cell? ⟨q, 1, none⟩ = some (.int .i64 p)) (h2 : w.cell? ⟨q, 2, none⟩ = some (.iface 253 (.pointer (some b)))) (hr : w.cell? ⟨0, 0, none⟩ = some (.iface 253 (.pointer (some b)))) (hg : ErrTy w) :
   Calls Tryz.prog 22 #[.iface 71 (.pointer (some ⟨q, 0, none⟩))] w fun e w' => e = .returned (.tuple #[.int .i64 k, .int .i64 p, .bool true]) /\ Kin w w' := by
 obtain ⟨i, hi, hcmp⟩ := Option.map_eq_some_iff.1 (show (Tryz.prog.info? 253).map (·.comparable) = some true by kernel_rfl)
 obtain ⟨j, hj, hjs⟩ := Option.map_eq_some_iff.1 (show (Tryz.prog.info? 255).map (·.size) = some 1 by kernel_rfl)
 have heq := fun w => run_eql_iface_ptr_same (P := Tryz.prog) w b Tryz.underlying27 Tryz.underlying253 hi hcmp hj
 have HA := Lib.hid (as_told ⟨q, 0, none⟩ w hg)
 have hF : ∀ w', Kin w w' -> w'.cell? ⟨q, 0, none⟩ = some (.int .i64 k) /\ w'.cell? ⟨q, 1, none⟩ = some (.int .i64 p) /\ w'.cell? ⟨q, 2, none⟩ = some (.iface 253 (.pointer (some b))) /\ w'.cell? ⟨0, 0, none⟩ = some (.iface 253 (.pointer (some b))) := fun w' kk =>
   ⟨(kk.cell (World.block_lt_of_cell? w _ h0)).trans h0, (kk.cell (World.block_lt_of_cell? w _ h1)).trans h1, (kk.cell (World.block_lt_of_cell? w _ h2)).trans h2, (kk.cell (World.block_lt_of_cell? w _ hr)).trans hr⟩
 have HF := Lib.hid hF
 clear hF h0 h1 h2 hr hg hi hcmp hj hjs
 go_enter Tryz.func22, Tryz.ntmps22
 go_wp2_with (go_at_call 60; with_reducible refine HA.out.mono ?_; rintro e w' ⟨rfl, hk, hc⟩)
 obtain ⟨c0, c1, c2, cr⟩ := HF.out w' hk
 have HK := Lib.hid hk
 clear hk
 go_region
 go_wp2
 go_ret3
 exact ⟨rfl, HK.out.drewN _⟩
end Go.Proofs.YtonmcakdofbjiaaGreatDoor
namespace Go.Proofs.YtonmcakdofbjiaaGreatDoor
open Go.ChangeShapes Go.WideShapes Go.ChangeAt Go.RowKit Go.Bsd
def plainLaid : List (String × DataW Unit) := [("math/bits.deBruijn32tab", Rows.laid_math_bits_deBruijn32tab), ("math/bits.deBruijn64tab", Rows.laid_math_bits_deBruijn64tab), ("internal/strconv.uint64pow10", Rows.laid_internal_strconv_uint64pow10), ("strconv.ErrRange", Rows.laid_strconv_ErrRange), ("strconv.ErrSyntax", Rows.laid_strconv_ErrSyntax), ("winnow/api.ErrReject", Rows.laid_winnow_api_ErrReject)]
def tyLaid : List (String × DataW Unit) := [("errors.errorType", Rows.laid_errors_errorType)]
theorem laidH_none : (Rows.parseNestsRow.laid.filter fun x => x.2.handleName?.isNone) = plainLaid := by kernel_rfl
theorem laidH_some : (Rows.parseNestsRow.laid.filter fun x => x.2.handleName?.isSome) = tyLaid := by kernel_rfl
theorem laidH_split {W : World} (h : laidMetH Tryz.prog Rows.parseNestsRow.laid W) : laidMet Tryz.prog plainLaid W /\ handlesMet Tryz.prog tyLaid W := by
 unfold laidMetH at h
 rw [laidH_none, laidH_some] at h
 exact h
theorem errTy_of {W : World} (h : handlesMet Tryz.prog tyLaid W) : ErrTy W := by
 obtain ⟨name, u, ty, e1, e2, e3, e4, e5⟩ := h _ (List.mem_singleton.2 rfl)
 have en : name = [101, 114, 114, 111, 114] := (Option.some.inj e1).symm
 subst en
 obtain rfl := Option.some.inj ((show (Tryz.prog.cutTypes.find? (·.1 == "internal/reflectlite.rtype")).map (·.2) = some 163 by kernel_rfl).symm.trans e2)
 have hm : ty ∈ (List.range 282).filter fun t => Tryz.prog.rowNamed t [101, 114, 114, 111, 114] := List.mem_filter.2 ⟨List.mem_range.2 (by rw [<- show Tryz.prog.types.size = 282 by kernel_rfl]; exact e3), e4⟩
 rw [show ((List.range 282).filter fun t => Tryz.prog.rowNamed t [101, 114, 114, 111, 114]) = [27] by kernel_rfl] at hm
 obtain rfl := List.mem_singleton.1 hm
 have hh : typeHandle Tryz.prog 27 = .pointer (some ⟨10, 27, none⟩) := by kernel_rfl
 rw [hh] at e5
 unfold ErrTy
 simpa using World.var?_cell (show Tryz.prog.globalNamed "errors.errorType" = some 2 by kernel_rfl) e5 0
noncomputable def tyWorld (os : Os) : World :=
 let w0 := World.holding Tryz.prog os ⟨#[], #[], []⟩
 { w0 with heap := w0.heap.modify 2 fun
     | .cells _ t fz => .cells #[.iface 163 (.agg #[.pointer (some ⟨10, 27, none⟩)])] t fz
     | o => o }
noncomputable def lawWorld (os : Os) : World := (tyWorld os).layVars Tryz.prog plainLaid
theorem lawWorld_os (os : Os) : (lawWorld os).os = os := World.layVars_os _ _ _
theorem plain_all : (plainLaid.filter fun x => (plainLaid.map (·.1)).contains x.1) = plainLaid := List.filter_eq_self.2 fun x hx => List.contains_iff_mem.2 (List.mem_map.2 ⟨x, hx, rfl⟩)
theorem plain_no : (plainLaid.filter fun x => !(plainLaid.map (·.1)).contains x.1) = [] := List.filter_eq_nil_iff.2 fun x hx => by rw [List.contains_iff_mem.2 (List.mem_map.2 ⟨x, hx, rfl⟩)]; simp
theorem lawWorld_met (os : Os) (args : Array Value) : laidMetH Tryz.prog Rows.parseNestsRow.laid ((lawWorld os).forCall (fun _ _ => 0) ⟨#[], args, []⟩).memory := by
 refine laidMetH_of_parts ?_ ?_
 · rw [laidH_none]
   have h : laidMet Tryz.prog plainLaid (lawWorld os) := laidMet_layVars (w0 := tyWorld os) (plainLaid.map (·.1)) [] (by rw [plain_all]; rfl) (by rw [plain_all]; kernel_rfl) (by rw [plain_all]; kernel_rfl) (by rw [plain_no]; exact LaidIn.none)
   exact h.of_heap (by simp [World.memory, World.forCall, Input.heap])
 · rw [laidH_some]; kernel_rfl
theorem laid_varsH {W : World} (hL : laidMetH Tryz.prog Rows.parseNestsRow.laid W) : (∀ y, y = 5 \/ y = 6 \/ y = 7 -> ∃ cs T fz, W.heap[y]? = some (.cells cs T fz) /\ ∀ v ∈ cs, PlainV v) /\
   (∀ y, y = 8 \/ y = 9 -> ∃ b o T fz, W.heap[y]? = some (.cells #[.iface 253 (.pointer (some ⟨b, o, none⟩))] T fz)) /\ (∃ b, W.cell? ⟨0, 0, none⟩ = some (.iface 253 (.pointer (some b)))) /\ ErrTy W := by
 obtain ⟨h, hT⟩ := laidH_split hL
 obtain ⟨ps, ⟨g1, t1, c1, f1, p1, q1, hg1, ht1, hv1, hd1, ⟨g2, t2, c2, f2, p2, q2, hg2, ht2, hv2, hd2, ⟨g3, t3, c3, f3, p3, q3, hg3, ht3, hv3, hd3, ⟨g4, t4, c4, f4, p4, q4, hg4, ht4, hv4, hd4, ⟨g5, t5, c5, f5, p5, q5, hg5, ht5, hv5, hd5, ⟨g6, t6, c6, f6, p6, q6, hg6, ht6, hv6, hd6, hq6, e6⟩, e5⟩, e4⟩, e3⟩, e2⟩, e1⟩, hnd, hrows⟩ := h
 obtain rfl := Option.some.inj ((show Tryz.prog.globalNamed "math/bits.deBruijn32tab" = some 6 by kernel_rfl).symm.trans hg1)
 obtain rfl := Option.some.inj ((show Tryz.prog.globalNamed "math/bits.deBruijn64tab" = some 7 by kernel_rfl).symm.trans hg2)
 obtain rfl := Option.some.inj ((show Tryz.prog.globalNamed "internal/strconv.uint64pow10" = some 5 by kernel_rfl).symm.trans hg3)
 obtain rfl := Option.some.inj ((show Tryz.prog.globalNamed "strconv.ErrRange" = some 9 by kernel_rfl).symm.trans hg4)
 obtain rfl := Option.some.inj ((show Tryz.prog.globalNamed "strconv.ErrSyntax" = some 8 by kernel_rfl).symm.trans hg5)
 obtain rfl := Option.some.inj ((show Tryz.prog.globalNamed "winnow/api.ErrReject" = some 0 by kernel_rfl).symm.trans hg6)
 obtain rfl := Option.some.inj ((show (Tryz.prog.globals[9]?).map (·.type) = some 27 by kernel_rfl).symm.trans ht4)
 obtain rfl := Option.some.inj ((show (Tryz.prog.globals[8]?).map (·.type) = some 27 by kernel_rfl).symm.trans ht5)
 obtain rfl := Option.some.inj ((show (Tryz.prog.globals[0]?).map (·.type) = some 27 by kernel_rfl).symm.trans ht6)
 have hq6' : q6 = [] := hq6
 subst hq6'
 have ok : ∀ g, MemPlace.cell g 0 ∈ ps -> ∀ u v, W.cell? ⟨g, 0, none⟩ = some (.iface u v) -> Value.okWide Tryz.prog W .any 0 u v := fun g hm u v hc => (hrows g 0 hm).2 u v hc
 obtain rfl := Option.some.inj ((show (Tryz.prog.globals[6]?).map (·.type) = some 245 by kernel_rfl).symm.trans ht1)
 obtain rfl := Option.some.inj ((show (Tryz.prog.globals[7]?).map (·.type) = some 246 by kernel_rfl).symm.trans ht2)
 obtain rfl := Option.some.inj ((show (Tryz.prog.globals[5]?).map (·.type) = some 231 by kernel_rfl).symm.trans ht3)
 have size1 : ∀ {n : String} {g : Nat} {cs : Array Value} {fuel : Nat} {d : DataW Unit} {p : List MemPlace}, DataW.trod (fun _ => ()) Tryz.prog W 0 (fun _ => true) false fuel 27 cs.toList = some (.iface "*errors.errorString" d, p) -> cs.size = 1 := by
   intro n g cs fuel d p hd
   obtain ⟨_, u, v, e, _, _⟩ := iface_of_trod Tryz.underlying27 hd
   have : cs.toList.length = 1 := by rw [e]; rfl
   simpa using this
 have s4 := size1 (n := "") (g := 0) hd4
 have s5 := size1 (n := "") (g := 0) hd5
 have s6 := size1 (n := "") (g := 0) hd6
 have m9 : MemPlace.cell 9 0 ∈ ps := by subst e1 e2 e3 e4; simp [MemPlace.row, s4]
 have m8 : MemPlace.cell 8 0 ∈ ps := by subst e1 e2 e3 e4 e5; simp [MemPlace.row, s5]
 have m0 : MemPlace.cell 0 0 ∈ ps := by subst e1 e2 e3 e4 e5 e6; simp [MemPlace.row, s6]
 obtain ⟨a9, x9, k9, cs9, n9, _, r9⟩ := err_laid hg4 hv4 hd4 (ok 9 m9)
 obtain ⟨a8, x8, k8, cs8, n8, _, r8⟩ := err_laid hg5 hv5 hd5 (ok 8 m8)
 obtain ⟨a0, x0, k0, cs0, n0, w0, r0⟩ := err_laid hg6 hv6 hd6 (ok 0 m0)
 refine ⟨fun y hy => ?_, fun y hy => ?_, ⟨a0, k0⟩, errTy_of hT⟩
 · rcases hy with rfl | rfl | rfl
   · exact arr_laid hg3 hv3 Tryz.underlying231 Tryz.underlying217 (by kernel_rfl) (by kernel_rfl) hd3
   · exact arr_laid hg1 hv1 Tryz.underlying245 Tryz.underlying5 (by kernel_rfl) (by kernel_rfl) hd1
   · exact arr_laid hg2 hv2 Tryz.underlying246 Tryz.underlying5 (by kernel_rfl) (by kernel_rfl) hd2
 · rcases hy with rfl | rfl
   · obtain ⟨T, fz, hh⟩ := var_heap hg5 hv5
     rw [cs8, cell_plain n8] at hh
     exact ⟨_, _, T, fz, hh⟩
   · obtain ⟨T, fz, hh⟩ := var_heap hg4 hv4
     rw [cs9, cell_plain n9] at hh
     exact ⟨_, _, T, fz, hh⟩
end Go.Proofs.YtonmcakdofbjiaaGreatDoor
namespace Go.Proofs.YtonmcakdofbjiaaGreatDoor
open Go.RowKit
theorem rest_any (n : Int) (m : Nat) (hm : 0 < m) (hm2 : m <= 9223372036854775807) (w : World) :
   Calls Tryz.prog 23 #[.int .i64 n, .int .i64 m] w fun e w' => (∃ k : Nat, k < m /\ e = .returned (.int .i64 k)) /\ w' = w := by
 have h2 : (Int.tmod n m).natAbs < m := by rw [Int.natAbs_tmod]; exact Nat.mod_lt _ (by simpa using hm)
 have h1 : -(m : Int) < Int.tmod n m /\ Int.tmod n m < m := by omega
 clear h2
 have hz : ((m : Int) == 0) = false := by simp; omega
 generalize hr : Int.tmod n m = r at h1
 by_cases h0 : r < 0
 · go_enter Tryz.func23, Tryz.ntmps23
   go_wp2
   go_ret
   exact ⟨⟨(r + m).toNat, by omega, by show Ending.returned (Value.int IntKind.i64 (r + m)) = _; rw [Int.toNat_of_nonneg (by omega)]⟩, rfl⟩
 · go_enter Tryz.func23, Tryz.ntmps23
   go_wp2
   go_ret
   exact ⟨⟨r.toNat, by omega, by show Ending.returned (Value.int IntKind.i64 r) = _; rw [Int.toNat_of_nonneg (by omega)]⟩, rfl⟩
end Go.Proofs.YtonmcakdofbjiaaGreatDoor
namespace Go.Proofs.YtonmcakdofbjiaaGreatDoor
open Go.RowKit
def skipB : ByteArray := { data := #[115, 107, 105, 112, 59] }
def skipW : ByteArray := { data := #[115, 107, 105, 112] }
def semiW : ByteArray := { data := #[59] }
def manyT : Nat -> ByteArray
 | 0 => { data := #[] }
 | m + 1 => manyT m ++ skipB
theorem many_size : ∀ m, (manyT m).size = 5 * m
 | 0 => rfl
 | m + 1 => by
   rw [manyT, ByteArray.size_append, many_size m]
   show 5 * m + 5 = _
   omega
theorem many_get : ∀ (m j r : Nat) (hj : j < m) (hr : r < skipB.size), (manyT m)[5 * j + r]'(by rw [many_size]; have : skipB.size = 5 := rfl; omega) = skipB[r]
 | 0, j, r, hj, hr => absurd hj (Nat.not_lt_zero _)
 | m + 1, j, r, hj, hr => by
   have h5 : skipB.size = 5 := rfl
   have hz := many_size m
   show (manyT m ++ skipB)[5 * j + r]'(by rw [ByteArray.size_append]; omega) = _
   rcases Nat.lt_or_ge j m with h | h
   · rw [ByteArray.getElem_append_left (by omega)]
     exact many_get m j r h hr
   · obtain rfl : j = m := by omega
     rw [ByteArray.getElem_append_right (by omega)]
     congr 1
     omega
theorem extract_is (s t : ByteArray) (i k : Nat) (hk : k = i + t.size) (h : k <= s.size) (hg : ∀ r (hr : r < t.size), s[i + r]'(by omega) = t[r]) : s.extract i k = t := by
 subst hk
 have hz : (s.extract i (i + t.size)).size = t.size := by simp [ByteArray.size_extract]; omega
 apply ByteArray.ext
 apply Array.ext
 · exact hz
 · intro r h1 h2
   obtain ⟨_, e⟩ := extract_get s i (i + t.size) r h h1
   exact e.trans (hg r h2)
section
variable {m j : Nat}
theorem many_letter (hj : j < m) : letterAt (manyT m) (5 * j) = true := by
 have g0 := many_get m j 0 hj (by decide)
 have hz := many_size m
 unfold letterAt
 rw [dif_pos (by omega)]
 have g0' : (manyT m)[5 * j]'(by omega) = 115 := g0
 rw [g0']
 decide
theorem many_upto (hj : j < m) : upto isAlnum (manyT m) (5 * j) = 5 * j + 4 := by
 have hz := many_size m
 have g0 : (manyT m)[5 * j]'(by omega) = 115 := many_get m j 0 hj (by decide)
 have g1 : (manyT m)[5 * j + 1]'(by omega) = 107 := many_get m j 1 hj (by decide)
 have g2 : (manyT m)[5 * j + 2]'(by omega) = 105 := many_get m j 2 hj (by decide)
 have g3 : (manyT m)[5 * j + 3]'(by omega) = 112 := many_get m j 3 hj (by decide)
 have g4 : (manyT m)[5 * j + 4]'(by omega) = 59 := many_get m j 4 hj (by decide)
 refine (upto_of ⟨by omega, by omega, fun t ht h1 h2 => ?_, fun h => ?_⟩).symm
 · obtain rfl | rfl | rfl | rfl : t = 5 * j \/ t = 5 * j + 1 \/ t = 5 * j + 2 \/ t = 5 * j + 3 := by omega
   · rw [g0]; decide
   · rw [g1]; decide
   · rw [g2]; decide
   · rw [g3]; decide
 · rw [g4]; decide
def wordI (i : Nat) : Item := ⟨0, skipW, 0, i, 0, 0⟩
def semiI (i : Nat) : Item := ⟨2, semiW, 0, i, 0, 0⟩
theorem many_word (hj : j < m) : itemAt (manyT m) (5 * j) = wordI (5 * j) := by
 have hz := many_size m
 have h4 : skipW.size = 4 := rfl
 unfold itemAt
 rw [if_pos (many_letter hj)]
 unfold wordAt
 rw [many_upto hj, if_neg (by omega)]
 unfold wordI
 congr 1
 refine extract_is _ _ _ _ (by omega) (by omega) fun r hr => ?_
 rw [many_get m j r hj (Nat.lt_trans hr (by decide))]
 obtain rfl | rfl | rfl | rfl : r = 0 \/ r = 1 \/ r = 2 \/ r = 3 := by omega
 all_goals rfl
theorem many_sign (hj : j < m) : signAt (manyT m) (5 * j + 4) = semiW := by
 have hz := many_size m
 have g4 : (manyT m)[5 * j + 4]'(by omega) = 59 := many_get m j 4 hj (by decide)
 unfold signAt
 rw [if_neg, dif_pos (by omega), if_pos (by rw [g4]; decide)]
 · refine extract_is _ _ _ _ (by show _ = _ + 1; omega) (by omega) fun r hr => ?_
   obtain rfl : r = 0 := by have : semiW.size = 1 := rfl; omega
   exact g4
 · rintro ⟨a, b⟩
   rw [List.any_eq_true] at b
   obtain ⟨t, ht, he⟩ := b
   have he' : ((manyT m).extract (5 * j + 4) (5 * j + 4 + 2)).toList = t := by simpa using he
   have hz2 : ((manyT m).extract (5 * j + 4) (5 * j + 4 + 2)).size = 2 := by simp [ByteArray.size_extract]; omega
   obtain ⟨h2, h3⟩ := extract_get (manyT m) (5 * j + 4) (5 * j + 4 + 2) 0 (by omega) (by omega)
   have h5 : t.head? = some 59 := by
     rw [<- he', ByteArray.toList_eq, List.head?_eq_getElem?, Array.getElem?_toList, Array.getElem?_eq_getElem (by show 0 < ((manyT m).extract (5 * j + 4) (5 * j + 4 + 2)).size; omega)]
     exact congrArg some (h3.trans g4)
   clear he he'
   revert h5
   revert ht
   revert t
   decide
theorem many_semi (hj : j < m) : itemAt (manyT m) (5 * j + 4) = semiI (5 * j + 4) := by
 have hz := many_size m
 have g4 : (manyT m)[5 * j + 4]'(by omega) = 59 := many_get m j 4 hj (by decide)
 unfold itemAt
 rw [if_neg (by simp only [letterAt]; rw [dif_pos (by omega), g4]; decide), if_neg (by simp only [digitAt]; rw [dif_pos (by omega), g4]; decide), many_sign hj]
 rw [if_neg (by rw [show semiW.toList.isEmpty = false from by kernel_rfl]; decide)]
 rfl
theorem many_skip4 (hj : j < m) : skipTo (manyT m) (5 * j + 4) = 5 * j + 4 := by
 have hz := many_size m
 have g4 : (manyT m)[5 * j + 4]'(by omega) = 59 := many_get m j 4 hj (by decide)
 exact (skip_of (.here _) (by omega) (fun h => by rw [g4]; decide) _ (Nat.le_refl _)).2
theorem many_skip0 (hj : j <= m) : skipTo (manyT m) (5 * j) = 5 * j := by
 have hz := many_size m
 refine (skip_of (.here _) (by omega) (fun h => ?_) _ (Nat.le_refl _)).2
 have g0 : (manyT m)[5 * j]'(by omega) = 115 := many_get m j 0 (by omega) (by decide)
 rw [g0]
 decide
end
def skipsI : Nat -> Nat -> List Item
 | 0, _ => []
 | n + 1, j => wordI (5 * j) :: semiI (5 * j + 4) :: skipsI n (j + 1)
theorem skips_word : ∀ (n j i : Nat), i < n -> (skipsI n j)[2 * i]? = some (wordI (5 * (j + i)))
 | 0, j, i, h => absurd h (Nat.not_lt_zero _)
 | n + 1, j, 0, h => rfl
 | n + 1, j, i + 1, h => by
   have := skips_word n (j + 1) i (by omega)
   rw [show j + 1 + i = j + (i + 1) from by omega] at this
   exact this
theorem skips_semi : ∀ (n j i : Nat), i < n -> (skipsI n j)[2 * i + 1]? = some (semiI (5 * (j + i) + 4))
 | 0, j, i, h => absurd h (Nat.not_lt_zero _)
 | n + 1, j, 0, h => rfl
 | n + 1, j, i + 1, h => by
   have := skips_semi n (j + 1) i (by omega)
   rw [show j + 1 + i = j + (i + 1) from by omega] at this
   exact this
theorem skips_len : ∀ (n j : Nat), (skipsI n j).length = 2 * n
 | 0, j => rfl
 | n + 1, j => by
   show (skipsI n (j + 1)).length + 1 + 1 = _
   rw [skips_len n (j + 1)]
   omega
theorem many_cut {m : Nat} : ∀ (n j f : Nat), n + j = m -> 2 * n <= f -> cutF (manyT m) f (5 * j) = skipsI n j
 | 0, j, f, h, hf => by
   have hz := many_size m
   cases f with
   | zero => rfl
   | succ f => unfold cutF; rw [if_neg (by omega)]; rfl
 | n + 1, j, f, h, hf => by
   have hz := many_size m
   obtain ⟨f, rfl⟩ : ∃ f', f = f' + 2 := ⟨f - 2, by omega⟩
   have hj : j < m := by omega
   rw [cutF, if_pos (by omega), many_word hj, if_pos (by rfl)]
   rw [show skipTo (manyT m) (5 * j + (wordI (5 * j)).text.size) = 5 * j + 4 from many_skip4 hj]
   rw [cutF, if_pos (by omega), many_semi hj, if_pos (by rfl)]
   rw [show skipTo (manyT m) (5 * j + 4 + (semiI (5 * j + 4)).text.size) = 5 * (j + 1) from many_skip0 (j := j + 1) (by omega)]
   rw [many_cut n (j + 1) f (by omega) (by omega)]
   rfl
theorem many_pieces (m : Nat) : pieces (manyT m) = skipsI m 0 := by
 have hz := many_size m
 unfold pieces
 rw [show skipTo (manyT m) 0 = 5 * 0 from many_skip0 (j := 0) (by omega)]
 exact many_cut m 0 _ (by omega) (by omega)
theorem skips_good : ∀ n j, goodOf (skipsI n j) = skipsI n j
 | 0, j => rfl
 | n + 1, j => by
   show wordI (5 * j) :: semiI (5 * j + 4) :: goodOf (skipsI n (j + 1)) = _
   rw [skips_good n (j + 1)]
   rfl
theorem skips_bad : ∀ n j, badOf (skipsI n j) = (0, 0)
 | 0, j => rfl
 | n + 1, j => by
   show badOf (skipsI n (j + 1)) = _
   exact skips_bad n (j + 1)
/-! ### the reading -/
section
variable {C : Ctx} {m : Nat}
theorem skip_comes (hl : C.l = skipsI m 0) (i : Nat) (hi : i < m) (s : ByteArray) : comesB C.l (2 * i) s = (skipW.toList == s.toList) := by
 have h0 : C.l[2 * i]? = some (wordI (5 * i)) := by rw [hl, skips_word m 0 i hi, Nat.zero_add]
 unfold comesB
 rw [h0]
 show (decide ((0 : Int) ≠ 1) && (skipW.toList == s.toList)) = _
 simp
theorem skip_stmt (hl : C.l = skipsI m 0) (i : Nat) (hi : i < m) (f : Nat) : rd C (f + 1) .stmt (2 * i) = some (.ok [leafT 6 noName 0 0 ((5 * i : Nat) : Int) []] (2 * i + 2)) := by
 have h0 : C.l[2 * i]? = some (wordI (5 * i)) := by rw [hl, skips_word m 0 i hi, Nat.zero_add]
 have h1 : C.l[2 * i + 1]? = some (semiI (5 * i + 4)) := by rw [hl, skips_semi m 0 i hi, Nat.zero_add]
 have hn : namedB C.l (2 * i) = false := by unfold namedB; rw [h0]; kernel_rfl
 have hc := skip_comes hl i hi
 have hw : wantR C ⟨#[59]⟩ (2 * i + 1) = some (.ok () (2 * i + 1 + 1)) := by
   have : comesB C.l (2 * i + 1) ⟨#[59]⟩ = true := by unfold comesB; rw [h1]; kernel_rfl
   unfold wantR
   rw [if_pos this]
 have hp : placeOf C.l C.e (2 * i) = ((5 * i : Nat) : Int) := by unfold placeOf; rw [h0]; rfl
 have e1 : (skipW.toList == (⟨#[105, 110, 112, 117, 116]⟩ : ByteArray).toList) = false := by kernel_rfl
 have e2 : (skipW.toList == (⟨#[97, 115, 115, 101, 114, 116]⟩ : ByteArray).toList) = false := by kernel_rfl
 have e3 : (skipW.toList == (⟨#[115, 107, 105, 112]⟩ : ByteArray).toList) = true := by kernel_rfl
 rw [rd, hn]
 simp only [Bool.false_eq_true, if_false, hc, e1, e2, e3, if_true, hw, andThen, hp]
theorem none_stmt (hl : C.l = skipsI m 0) (f : Nat) : rd C (f + 1) .stmt (2 * m) = some (.ok [] (2 * m)) := by
 have h0 : C.l[2 * m]? = none := by rw [hl]; exact List.getElem?_eq_none (by rw [skips_len]; omega)
 have hn : namedB C.l (2 * m) = false := by unfold namedB; rw [h0]
 have hc : ∀ s, comesB C.l (2 * m) s = false := fun s => by unfold comesB; rw [h0]
 rw [rd, hn]
 simp only [Bool.false_eq_true, if_false, hc]
def skipTrs : Nat -> Nat -> List Tr
 | 0, _ => []
 | n + 1, i => leafT 6 noName 0 0 ((5 * i : Nat) : Int) [] :: skipTrs n (i + 1)
theorem skip_stmts (hl : C.l = skipsI m 0) : ∀ (n i f : Nat), n + i = m -> n + 2 <= f -> rd C f .stmts (2 * i) = some (.ok (skipTrs n i) (2 * m))
 | 0, i, f, h, hf => by
   obtain ⟨f, rfl⟩ : ∃ f', f = f' + 2 := ⟨f - 2, by omega⟩
   obtain rfl : i = m := by omega
   rw [rd, none_stmt hl]
   rfl
 | n + 1, i, f, h, hf => by
   obtain ⟨f, rfl⟩ : ∃ f', f = f' + 2 := ⟨f - 2, by omega⟩
   rw [rd, skip_stmt hl i (by omega)]
   show andThen (rd C (f + 1) .stmts (2 * i + 2)) _ = _
   rw [show 2 * i + 2 = 2 * (i + 1) from by omega, skip_stmts hl n (i + 1) (f + 1) (by omega) (by omega)]
   rfl
theorem skip_prog (hl : C.l = skipsI m 0) (hm : 0 < m) : rd C (m + 3) .prog 0 = some (.ok (skipTrs m 0) (2 * m)) := by
 have hc := skip_comes hl 0 hm
 have e1 : (skipW.toList == (⟨#[118, 97, 114]⟩ : ByteArray).toList) = false := by kernel_rfl
 have e2 : (skipW.toList == (⟨#[97, 114, 114, 97, 121]⟩ : ByteArray).toList) = false := by kernel_rfl
 have hs := skip_stmts hl m 0 (m + 2) (by omega) (by omega)
 have hL : C.l.length = 2 * m := by rw [hl, skips_len]
 rw [Nat.mul_zero] at hc hs
 rw [rd]
 simp only [Bool.false_eq_true, if_false, hc, e1, e2, hs, andThen, hL, Nat.lt_irrefl]
end
def skipNds : Nat -> Nat -> List Nd
 | 0, _ => []
 | n + 1, i => ⟨1, 6, noName, 0, 0, ((5 * i : Nat) : Int)⟩ :: skipNds n (i + 1)
theorem skip_flat : ∀ n i, flatTs (skipTrs n i) 1 = skipNds n i
 | 0, i => by simp [skipTrs, flatTs, skipNds]
 | n + 1, i => by simp [skipTrs, flatTs, skipNds, skip_flat n (i + 1), leafT, flatT]
theorem skipNds_len : ∀ n i, (skipNds n i).length = n
 | 0, i => rfl
 | n + 1, i => by show (skipNds n (i + 1)).length + 1 = _; rw [skipNds_len]
theorem skipNds_at : ∀ n i t, t < n -> ((skipNds n i)[t]?.map (·.at_)) = some ((5 * (i + t) : Nat) : Int)
 | 0, i, t, h => absurd h (Nat.not_lt_zero _)
 | n + 1, i, 0, h => rfl
 | n + 1, i, t + 1, h => by
   have := skipNds_at n (i + 1) t (by omega)
   rw [show i + 1 + t = i + (t + 1) from by omega] at this
   exact this
theorem skipNds_flat : ∀ n i, (skipNds n i).find? (fun n => decide (24 < n.depth)) = none
 | 0, i => rfl
 | n + 1, i => by
   show (skipNds n (i + 1)).find? _ = none
   exact skipNds_flat n (i + 1)
theorem many_parses (m : Nat) (hm : 0 < m) (hz : 5 * m <= 8192) : ParsesTo (manyT m) (if 300 < m then .fault 32 1500 else .tree (skipNds m 0)) := by
 unfold ParsesTo
 rw [if_neg (by rw [many_size]; omega), many_pieces, skips_bad, if_neg (by simp)]
 refine ⟨m + 3, _, skip_prog (C := ctx0 (manyT m)) (m := m) ?_ hm, ?_⟩
 · show goodOf (pieces (manyT m)) = _
   rw [many_pieces, skips_good]
 · show _ = outOf (flatTs (skipTrs m 0) 1)
   rw [skip_flat]
   unfold outOf
   rw [skipNds_len, skipNds_flat]
   split
   · rename_i h
     rw [skipNds_at m 0 300 h]
     rfl
   · rfl
/-! ### so many ! ahead of a name -/
def headT : ByteArray := { data := #[120, 32, 58, 61, 32] }
def bangs : Nat -> ByteArray
 | 0 => headT
 | k + 1 => bangs k ++ { data := #[33] }
def nestT (k : Nat) : ByteArray := bangs k ++ { data := #[121, 59] }
def nestOK (k : Nat) : Bool := decide ((nestT k).size <= 8192) && decide ((badOf (pieces (nestT k))).1 = 0) && match (rd (ctx0 (nestT k)) 400 .prog 0).map outOfRes with
 | some (.tree l) => decide (k <= 22) && decide (l.length = k + 2) && (match l[k + 1]? with
   | some n => decide (n.depth = k + 2) && decide (n.at_ = 5 + k)
   | none => false)
 | some (.fault x p) => decide (22 < k) && decide (x = 31) && decide (p = 28)
 | none => false
theorem nest_all : (List.range 60).all nestOK = true := by kernel_rfl
theorem nest_parses (k : Nat) (hk : k < 60) : (k <= 22 /\ ∃ l n, ParsesTo (nestT k) (.tree l) /\ l.length = k + 2 /\ l[k + 1]? = some n /\ n.depth = k + 2 /\ n.at_ = 5 + k) \/ (22 < k /\ ParsesTo (nestT k) (.fault 31 28)) := by
 have h := List.all_eq_true.1 nest_all k (List.mem_range.2 hk)
 unfold nestOK at h
 rw [Bool.and_eq_true, Bool.and_eq_true] at h
 obtain ⟨⟨h1, h2⟩, h3⟩ := h
 have h1 := of_decide_eq_true h1
 have h2 := of_decide_eq_true h2
 have key : ∀ o, (rd (ctx0 (nestT k)) 400 .prog 0).map outOfRes = some o -> ParsesTo (nestT k) o := fun o ho => by
   unfold ParsesTo
   rw [if_neg (by omega), if_neg (by rw [h2]; simp)]
   obtain ⟨r, a, b⟩ := Option.map_eq_some_iff.1 ho
   exact ⟨400, r, a, b.symm⟩
 split at h3
 · rename_i l hl
   have hp := key _ hl
   rw [Bool.and_eq_true, Bool.and_eq_true] at h3
   obtain ⟨⟨a, b⟩, c⟩ := h3
   split at c
   · rename_i n hn
     rw [Bool.and_eq_true] at c
     exact .inl ⟨of_decide_eq_true a, l, n, hp, of_decide_eq_true b, hn, of_decide_eq_true c.1, of_decide_eq_true c.2⟩
   · cases c
 · rename_i x p hl
   have hp := key _ hl
   rw [Bool.and_eq_true, Bool.and_eq_true] at h3
   obtain ⟨⟨a, b⟩, c⟩ := h3
   rw [of_decide_eq_true b, of_decide_eq_true c] at hp
   exact .inr ⟨of_decide_eq_true a, hp⟩
 · cases h3
theorem bangs_size : ∀ k, (bangs k).size = 5 + k
 | 0 => rfl
 | k + 1 => by rw [bangs, ByteArray.size_append, bangs_size k]; show 5 + k + 1 = _; omega
end Go.Proofs.YtonmcakdofbjiaaGreatDoor
namespace Go.Proofs.YtonmcakdofbjiaaGreatDoor
open Go.RowKit Go.Bsd
noncomputable def ns0 : Code := (Tryz.f8.body.getD .skip)
noncomputable def ns1 : Code := seqR ns0
noncomputable def ns2 : Code := seqR ns1
noncomputable def ns3 : Code := seqR ns2
noncomputable def ns4 : Code := seqR ns3
noncomputable def ns5 : Code := seqR ns4
noncomputable def ns6 : Code := seqR ns5
noncomputable def ns7 : Code := seqR ns6
noncomputable def ns8 : Code := seqR ns7
noncomputable def ns9 : Code := seqR ns8
noncomputable def ns10 : Code := seqR ns9
noncomputable def ns11 : Code := seqR ns10
noncomputable def ns12 : Code := seqR ns11
noncomputable def ns13 : Code := seqR ns12
theorem ns0_is : ns0 = .seq (seqL ns0) (.seq (seqL ns1) (.seq (seqL ns2) (.seq (seqL ns3) (.seq (seqL ns4) ns5)))) := rfl
theorem ns5_is : ns5 = .seq (seqL ns5) ns6 := rfl
theorem ns5_reg : ∃ id, seqL ns5 = .region id (regOps (seqL ns5)) false := ⟨_, rfl⟩
theorem ns6_is : ns6 = .seq (seqL ns6) ns7 := rfl
theorem ns7_is : ns7 = .seq (.seq (seqL (seqL ns7)) (seqR (seqL ns7))) ns8 := rfl
theorem ns7_reg : ∃ id, seqL (seqL ns7) = .region id (regOps (seqL (seqL ns7))) false := ⟨_, rfl⟩
theorem ns8_is : ns8 = .seq (seqL ns8) (.seq (seqL ns9) (.seq (seqL ns10) (.seq (seqL ns11) ns12))) := rfl
theorem ns12_is : ns12 = .seq (seqL ns12) ns13 := rfl
theorem ns12_reg : ∃ id, seqL ns12 = .region id (regOps (seqL ns12)) false := ⟨_, rfl⟩
theorem nests_end1 (w w1 : World) (kw : Kin w w1) (k : Nat) (hk0 : k < 60) (hk : k <= 30) (b : Option Addr) (cap : Nat) (p : Int) (er : Value) (T : Nat -> Question -> Nat) (d : Nat) (HT : Hid (Calls Tryz.prog 22 #[er] (re w1 T d) fun e w' => e = .returned (.tuple #[.int .i64 0, .int .i64 p, .bool true]) /\ Hid (Kin w1 w'))) (t0 t1 t4 t5 t8 t9 t10 t11 t13 t14 t15 t16 t17 t18 t19 t20 t21 t22 t23 t24 t25 t26 t27 t28 t29 t30 t31 t32 t33 t34 t35 t36 t37 t38 t39 t40 t41 t42 t43 t44 t45 t46 t47 t48 t49 t50 t51 t52 t53 t54 t55 t56 t57 t58 t59 t60 t61 t62 t63 t64 t65 t66 t67 t68 t69 t70 t71 t72 t73 t74 t75 t76 t77 t78 t79 t80 t81 t82 t83 t84 t85 t86 t87 t88 t89 t90 t91 t92 t93 t94 t95 t96 t97 t98 t99 t100 t101 t102 t103 t104 t105 t106 t107 t108 t109 t110 t111 t112 t113 t114 t115 t116 t117 t118 t119 t120 t121 t122 t123 t124 t125 t126 t127 t128 t129 t130 t131 t132 : Value) :
   ns13.wp Tryz.prog (bodyPost Tryz.prog Tryz.f8 (TrueP w)) { tmps := #[t0, t1, .bool false, .int .i64 k, t4, t5, .slice b (270 + k) cap, er, t8, t9, t10, t11, .int .i64 (270 + k), t13, t14, t15, t16, t17, t18, t19, t20, t21, t22, t23, t24, t25, t26, t27, t28, t29, t30, t31, t32, t33, t34, t35, t36, t37, t38, t39, t40, t41, t42, t43, t44, t45, t46, t47, t48, t49, t50, t51, t52, t53, t54, t55, t56, t57, t58, t59, t60, t61, t62, t63, t64, t65, t66, t67, t68, t69, t70, t71, t72, t73, t74, t75, t76, t77, t78, t79, t80, t81, t82, t83, t84, t85, t86, t87, t88, t89, t90, t91, t92, t93, t94, t95, t96, t97, t98, t99, t100, t101, t102, t103, t104, t105, t106, t107, t108, t109, t110, t111, t112, t113, t114, t115, t116, t117, t118, t119, t120, t121, t122, t123, t124, t125, t126, t127, t128, t129, t130, t131, t132], defers := [] } (re w1 T d) := by
 have KW := Lib.hid kw
 clear kw
 simp only [ns13, ns12, ns11, ns10, ns9, ns8, ns7, ns6, ns5, ns4, ns3, ns2, ns1, ns0, seqL, seqR, regOps, Tryz.f8, Option.getD_some]
 go_wp2_with (go_at_call 22; with_reducible refine HT.out.mono ?_; rintro e w' ⟨rfl, hk⟩)
 go_ret
 exact ⟨rfl, KW.out.trans hk.out⟩
theorem nests_end2 (w w1 : World) (kw : Kin w w1) (k : Nat) (hk0 : k < 60) (hk : 30 < k) (er : Value) (T : Nat -> Question -> Nat) (d : Nat) (HT : Hid (Calls Tryz.prog 22 #[er] (re w1 T d) fun e w' => e = .returned (.tuple #[.int .i64 32, .int .i64 1500, .bool true]) /\ Hid (Kin w1 w'))) (t0 t1 t4 t5 t8 t9 t10 t11 t13 t14 t15 t16 t17 t18 t19 t20 t21 t22 t23 t24 t25 t26 t27 t28 t29 t30 t31 t32 t33 t34 t35 t36 t37 t38 t39 t40 t41 t42 t43 t44 t45 t46 t47 t48 t49 t50 t51 t52 t53 t54 t55 t56 t57 t58 t59 t60 t61 t62 t63 t64 t65 t66 t67 t68 t69 t70 t71 t72 t73 t74 t75 t76 t77 t78 t79 t80 t81 t82 t83 t84 t85 t86 t87 t88 t89 t90 t91 t92 t93 t94 t95 t96 t97 t98 t99 t100 t101 t102 t103 t104 t105 t106 t107 t108 t109 t110 t111 t112 t113 t114 t115 t116 t117 t118 t119 t120 t121 t122 t123 t124 t125 t126 t127 t128 t129 t130 t131 t132 : Value) :
   ns13.wp Tryz.prog (bodyPost Tryz.prog Tryz.f8 (TrueP w)) { tmps := #[t0, t1, .bool false, .int .i64 k, t4, t5, .slice none 0 0, er, t8, t9, t10, t11, .int .i64 (270 + k), t13, t14, t15, t16, t17, t18, t19, t20, t21, t22, t23, t24, t25, t26, t27, t28, t29, t30, t31, t32, t33, t34, t35, t36, t37, t38, t39, t40, t41, t42, t43, t44, t45, t46, t47, t48, t49, t50, t51, t52, t53, t54, t55, t56, t57, t58, t59, t60, t61, t62, t63, t64, t65, t66, t67, t68, t69, t70, t71, t72, t73, t74, t75, t76, t77, t78, t79, t80, t81, t82, t83, t84, t85, t86, t87, t88, t89, t90, t91, t92, t93, t94, t95, t96, t97, t98, t99, t100, t101, t102, t103, t104, t105, t106, t107, t108, t109, t110, t111, t112, t113, t114, t115, t116, t117, t118, t119, t120, t121, t122, t123, t124, t125, t126, t127, t128, t129, t130, t131, t132], defers := [] } (re w1 T d) := by
 have KW := Lib.hid kw
 clear kw
 simp only [ns13, ns12, ns11, ns10, ns9, ns8, ns7, ns6, ns5, ns4, ns3, ns2, ns1, ns0, seqL, seqR, regOps, Tryz.f8, Option.getD_some]
 go_wp2_with (go_at_call 22; with_reducible refine HT.out.mono ?_; rintro e w' ⟨rfl, hk⟩)
 go_ret
 exact ⟨rfl, KW.out.trans hk.out⟩
end Go.Proofs.YtonmcakdofbjiaaGreatDoor
namespace Go.Proofs.YtonmcakdofbjiaaGreatDoor
open Go.RowKit Go.Bsd
theorem nests_two (hP : TameProg Tryz.prog) (w w1 : World) (kw : Kin w w1) (hv : VarsOk w1) (b : Addr) (hr : w1.cell? ⟨0, 0, none⟩ = some (.iface 253 (.pointer (some b)))) (hg : ErrTy w1) (k : Nat) (hk0 : k < 60) (t0 t1 t4 t5 t6 t7 t8 t9 t10 t13 t14 t15 t16 t17 t18 t19 t20 t21 t22 t23 t24 t25 t26 t27 t28 t29 t30 t31 t32 t33 t34 t35 t36 t37 t38 t39 t40 t41 t42 t43 t44 t45 t46 t47 t48 t49 t50 t51 t52 t53 t54 t55 t56 t57 t58 t59 t60 t61 t62 t63 t64 t65 t66 t67 t68 t69 t70 t71 t72 t73 t74 t75 t76 t77 t78 t79 t80 t81 t82 t83 t84 t85 t86 t87 t88 t89 t90 t91 t92 t93 t94 t95 t96 t97 t98 t99 t100 t101 t102 t103 t104 t105 t106 t107 t108 t109 t110 t111 t112 t113 t114 t115 t116 t117 t118 t119 t120 t121 t122 t123 t124 t125 t126 t127 t128 t129 t130 t131 t132 : Value) :
   wpB Tryz.prog ns12 (bodyPost Tryz.prog Tryz.f8 (TrueP w)) { tmps := #[t0, t1, .bool false, .int .i64 k, t4, t5, t6, t7, t8, t9, t10, .string (manyT (270 + k)), .int .i64 (270 + k), t13, t14, t15, t16, t17, t18, t19, t20, t21, t22, t23, t24, t25, t26, t27, t28, t29, t30, t31, t32, t33, t34, t35, t36, t37, t38, t39, t40, t41, t42, t43, t44, t45, t46, t47, t48, t49, t50, t51, t52, t53, t54, t55, t56, t57, t58, t59, t60, t61, t62, t63, t64, t65, t66, t67, t68, t69, t70, t71, t72, t73, t74, t75, t76, t77, t78, t79, t80, t81, t82, t83, t84, t85, t86, t87, t88, t89, t90, t91, t92, t93, t94, t95, t96, t97, t98, t99, t100, t101, t102, t103, t104, t105, t106, t107, t108, t109, t110, t111, t112, t113, t114, t115, t116, t117, t118, t119, t120, t121, t122, t123, t124, t125, t126, t127, t128, t129, t130, t131, t132], defers := [] } w1 := by
 have HP := Lib.hid (parse_any hP (manyT (270 + k)) (by rw [many_size]; omega) 253 _ w1 hv hr _ (many_parses (270 + k) (by omega) (by omega)))
 have HR := Lib.hid hr
 have HG := Lib.hid hg
 have KW := Lib.hid kw
 clear hv hr hg kw
 rw [ns12_is]
 refine wpB_seq hP ?_
 obtain ⟨id, hid⟩ := ns12_reg
 rw [hid]
 clear hid
 generalize hX : ns13 = X
 have HX := Lib.hid hX
 clear hX
 generalize hB : bodyPost Tryz.prog Tryz.f8 (TrueP w) = B
 have HB := Lib.hid hB
 clear hB
 simp only [ns12, ns11, ns10, ns9, ns8, ns7, ns6, ns5, ns4, ns3, ns2, ns1, ns0, seqL, seqR, regOps, Tryz.f8, Option.getD_some]
 refine wpB_region hP (l := [_, _, _, _, _, _, _]) ?_
 refine listB_cut hP [_] [_, _, _, _, _, _] fun T d => ?_
 generalize hN : listB Tryz.prog _ _ _ = N
 have HN := Lib.hid hN
 clear hN
 go_wp2
 rw [<- HN.out]
 refine listB_tape ?_
 refine listB_fn hP Tryz.func14 (by kernel_rfl) (by kernel_rfl) rfl rfl (args := #[.string (manyT (270 + k))]) (by simp [Act.eval, evalT]) (HP.out.mono ?_)
 rintro e w2 hpost
 cases e with
 | outgrown => exact hpost.elim
 | panicked _ => exact hpost.elim
 | returned v =>
   have hE2 : ∃ sl er, v = .tuple #[sl, er] /\ Hid (∀ (t0 t1 t4 t5 t8 t9 t10 t11 t13 t14 t15 t16 t17 t18 t19 t20 t21 t22 t23 t24 t25 t26 t27 t28 t29 t30 t31 t32 t33 t34 t35 t36 t37 t38 t39 t40 t41 t42 t43 t44 t45 t46 t47 t48 t49 t50 t51 t52 t53 t54 t55 t56 t57 t58 t59 t60 t61 t62 t63 t64 t65 t66 t67 t68 t69 t70 t71 t72 t73 t74 t75 t76 t77 t78 t79 t80 t81 t82 t83 t84 t85 t86 t87 t88 t89 t90 t91 t92 t93 t94 t95 t96 t97 t98 t99 t100 t101 t102 t103 t104 t105 t106 t107 t108 t109 t110 t111 t112 t113 t114 t115 t116 t117 t118 t119 t120 t121 t122 t123 t124 t125 t126 t127 t128 t129 t130 t131 t132 : Value), wpB Tryz.prog X B { tmps := #[t0, t1, .bool false, .int .i64 k, t4, t5, sl, er, t8, t9, t10, t11, .int .i64 (270 + k), t13, t14, t15, t16, t17, t18, t19, t20, t21, t22, t23, t24, t25, t26, t27, t28, t29, t30, t31, t32, t33, t34, t35, t36, t37, t38, t39, t40, t41, t42, t43, t44, t45, t46, t47, t48, t49, t50, t51, t52, t53, t54, t55, t56, t57, t58, t59, t60, t61, t62, t63, t64, t65, t66, t67, t68, t69, t70, t71, t72, t73, t74, t75, t76, t77, t78, t79, t80, t81, t82, t83, t84, t85, t86, t87, t88, t89, t90, t91, t92, t93, t94, t95, t96, t97, t98, t99, t100, t101, t102, t103, t104, t105, t106, t107, t108, t109, t110, t111, t112, t113, t114, t115, t116, t117, t118, t119, t120, t121, t122, t123, t124, t125, t126, t127, t128, t129, t130, t131, t132], defers := [] } w2) := by
     by_cases hk : k <= 30
     · rw [if_neg (by omega)] at hpost
       obtain ⟨kin, sl, rfl, hown⟩ := hpost
       obtain ⟨b', cap, rfl, hcap, _⟩ := NodesAt.of_owns hown
       rw [skipNds_len]
       refine ⟨_, _, rfl, Lib.hid fun t0 t1 t4 t5 t8 t9 t10 t11 t13 t14 t15 t16 t17 t18 t19 t20 t21 t22 t23 t24 t25 t26 t27 t28 t29 t30 t31 t32 t33 t34 t35 t36 t37 t38 t39 t40 t41 t42 t43 t44 t45 t46 t47 t48 t49 t50 t51 t52 t53 t54 t55 t56 t57 t58 t59 t60 t61 t62 t63 t64 t65 t66 t67 t68 t69 t70 t71 t72 t73 t74 t75 t76 t77 t78 t79 t80 t81 t82 t83 t84 t85 t86 t87 t88 t89 t90 t91 t92 t93 t94 t95 t96 t97 t98 t99 t100 t101 t102 t103 t104 t105 t106 t107 t108 t109 t110 t111 t112 t113 t114 t115 t116 t117 t118 t119 t120 t121 t122 t123 t124 t125 t126 t127 t128 t129 t130 t131 t132 => ?_⟩
       rw [<- HX.out, <- HB.out]
       refine wpB_lift hP fun T d => ?_
       have ht : Hid (Calls Tryz.prog 22 #[.nilIface] (re w2 T d) fun e w' => e = .returned (.tuple #[.int .i64 0, .int .i64 0, .bool true]) /\ Hid (Kin w2 w')) := Lib.hid ((told_nil (re w2 T d)).mono fun e w' h => ⟨h.1, Lib.hid (by rw [h.2]; exact kin_re w2 T d)⟩)
       have := nests_end1 w w2 (KW.out.trans kin) k hk0 hk b' cap 0 .nilIface T d ht t0 t1 t4 t5 t8 t9 t10 t11 t13 t14 t15 t16 t17 t18 t19 t20 t21 t22 t23 t24 t25 t26 t27 t28 t29 t30 t31 t32 t33 t34 t35 t36 t37 t38 t39 t40 t41 t42 t43 t44 t45 t46 t47 t48 t49 t50 t51 t52 t53 t54 t55 t56 t57 t58 t59 t60 t61 t62 t63 t64 t65 t66 t67 t68 t69 t70 t71 t72 t73 t74 t75 t76 t77 t78 t79 t80 t81 t82 t83 t84 t85 t86 t87 t88 t89 t90 t91 t92 t93 t94 t95 t96 t97 t98 t99 t100 t101 t102 t103 t104 t105 t106 t107 t108 t109 t110 t111 t112 t113 t114 t115 t116 t117 t118 t119 t120 t121 t122 t123 t124 t125 t126 t127 t128 t129 t130 t131 t132
       simpa using this
     · rw [if_pos (by omega)] at hpost
       obtain ⟨kin, q, rfl, hq, hc⟩ := hpost
       refine ⟨_, _, rfl, Lib.hid fun t0 t1 t4 t5 t8 t9 t10 t11 t13 t14 t15 t16 t17 t18 t19 t20 t21 t22 t23 t24 t25 t26 t27 t28 t29 t30 t31 t32 t33 t34 t35 t36 t37 t38 t39 t40 t41 t42 t43 t44 t45 t46 t47 t48 t49 t50 t51 t52 t53 t54 t55 t56 t57 t58 t59 t60 t61 t62 t63 t64 t65 t66 t67 t68 t69 t70 t71 t72 t73 t74 t75 t76 t77 t78 t79 t80 t81 t82 t83 t84 t85 t86 t87 t88 t89 t90 t91 t92 t93 t94 t95 t96 t97 t98 t99 t100 t101 t102 t103 t104 t105 t106 t107 t108 t109 t110 t111 t112 t113 t114 t115 t116 t117 t118 t119 t120 t121 t122 t123 t124 t125 t126 t127 t128 t129 t130 t131 t132 => ?_⟩
       rw [<- HX.out, <- HB.out]
       refine wpB_lift hP fun T d => ?_
       have kr := kin_re w2 T d
       have ht : Hid (Calls Tryz.prog 22 #[.iface 71 (.pointer (some ⟨q, 0, none⟩))] (re w2 T d) fun e w' => e = .returned (.tuple #[.int .i64 32, .int .i64 1500, .bool true]) /\ Hid (Kin w2 w')) :=
         Lib.hid ((told_fault q 32 1500 b (re w2 T d) (by simp [World.cell?, hc]) (by simp [World.cell?, hc]) (by simp [World.cell?, hc]) ((kin.cell (World.block_lt_of_cell? w1 _ HR.out)).trans HR.out) (ErrTy.kin HG.out (kin.trans kr))).mono fun e w' h => ⟨h.1, Lib.hid (kr.trans h.2)⟩)
       exact nests_end2 w w2 (KW.out.trans kin) k hk0 (by omega) _ T d ht t0 t1 t4 t5 t8 t9 t10 t11 t13 t14 t15 t16 t17 t18 t19 t20 t21 t22 t23 t24 t25 t26 t27 t28 t29 t30 t31 t32 t33 t34 t35 t36 t37 t38 t39 t40 t41 t42 t43 t44 t45 t46 t47 t48 t49 t50 t51 t52 t53 t54 t55 t56 t57 t58 t59 t60 t61 t62 t63 t64 t65 t66 t67 t68 t69 t70 t71 t72 t73 t74 t75 t76 t77 t78 t79 t80 t81 t82 t83 t84 t85 t86 t87 t88 t89 t90 t91 t92 t93 t94 t95 t96 t97 t98 t99 t100 t101 t102 t103 t104 t105 t106 t107 t108 t109 t110 t111 t112 t113 t114 t115 t116 t117 t118 t119 t120 t121 t122 t123 t124 t125 t126 t127 t128 t129 t130 t131 t132
   obtain ⟨sl, er, rfl, hE2⟩ := hE2
   clear hpost HN HP HR HG KW HB HX
   show listB Tryz.prog _ _ _ _ w2
   generalize hM : Exit.then (wpB Tryz.prog X B) B = M
   have HM := Lib.hid hM
   clear hM
   refine listB_lift hP fun T d => ?_
   go_wp2
   rw [<- HM.out]
   exact hE2.out _ _ _ _ _ _ _ _ _ _ _ _ _ _ _ _ _ _ _ _ _ _ _ _ _ _ _ _ _ _ _ _ _ _ _ _ _ _ _ _ _ _ _ _ _ _ _ _ _ _ _ _ _ _ _ _ _ _ _ _ _ _ _ _ _ _ _ _ _ _ _ _ _ _ _ _ _ _ _ _ _ _ _ _ _ _ _ _ _ _ _ _ _ _ _ _ _ _ _ _ _ _ _ _ _ _ _ _ _ _ _ _ _ _ _ _ _ _ _ _ _ _ _ _ _ _ _ _
end Go.Proofs.YtonmcakdofbjiaaGreatDoor
namespace Go.Proofs.YtonmcakdofbjiaaGreatDoor
open Go.RowKit Go.Bsd
theorem nests_midA (hP : TameProg Tryz.prog) (w w1 : World) (k : Nat) (hk0 : k < 60) (hk : k <= 22) (g off cap : Nat) (hcap : k + 2 <= cap) (c0 : w1.cell? ⟨g, off + (k + 1) * 6, none⟩ = some (.int .i64 (k + 2))) (c5 : w1.cell? ⟨g, off + (k + 1) * 6 + 5, none⟩ = some (.int .i64 (5 + k))) (p : Int) (HE : Hid (∀ (t0 t1 t4 t5 t6 t7 t8 t9 t10 t13 t14 t15 t16 t17 t18 t19 t20 t21 t22 t23 t24 t25 t26 t27 t28 t29 t30 t31 t32 t33 t34 t35 t36 t37 t38 t39 t40 t41 t42 t43 t44 t45 t46 t47 t48 t49 t50 t51 t52 t53 t54 t55 t56 t57 t58 t59 t60 t61 t62 t63 t64 t65 t66 t67 t68 t69 t70 t71 t72 t73 t74 t75 t76 t77 t78 t79 t80 t81 t82 t83 t84 t85 t86 t87 t88 t89 t90 t91 t92 t93 t94 t95 t96 t97 t98 t99 t100 t101 t102 t103 t104 t105 t106 t107 t108 t109 t110 t111 t112 t113 t114 t115 t116 t117 t118 t119 t120 t121 t122 t123 t124 t125 t126 t127 t128 t129 t130 t131 t132 : Value), wpB Tryz.prog ns12 (bodyPost Tryz.prog Tryz.f8 (TrueP w)) { tmps := #[t0, t1, .bool false, .int .i64 k, t4, t5, t6, t7, t8, t9, t10, .string (manyT (270 + k)), .int .i64 (270 + k), t13, t14, t15, t16, t17, t18, t19, t20, t21, t22, t23, t24, t25, t26, t27, t28, t29, t30, t31, t32, t33, t34, t35, t36, t37, t38, t39, t40, t41, t42, t43, t44, t45, t46, t47, t48, t49, t50, t51, t52, t53, t54, t55, t56, t57, t58, t59, t60, t61, t62, t63, t64, t65, t66, t67, t68, t69, t70, t71, t72, t73, t74, t75, t76, t77, t78, t79, t80, t81, t82, t83, t84, t85, t86, t87, t88, t89, t90, t91, t92, t93, t94, t95, t96, t97, t98, t99, t100, t101, t102, t103, t104, t105, t106, t107, t108, t109, t110, t111, t112, t113, t114, t115, t116, t117, t118, t119, t120, t121, t122, t123, t124, t125, t126, t127, t128, t129, t130, t131, t132], defers := [] } w1)) (t0 t1 t4 t5 t7 t10 t11 t12 t13 t14 t15 t16 t17 t18 t19 t20 t21 t22 t23 t24 t25 t26 t27 t28 t29 t30 t31 t32 t33 t34 t35 t36 t37 t38 t39 t40 t41 t42 t43 t44 t45 t46 t47 t48 t49 t50 t51 t52 t53 t54 t55 t56 t57 t58 t59 t60 t61 t62 t63 t64 t65 t66 t67 t68 t69 t70 t71 t72 t73 t74 t75 t76 t77 t78 t79 t80 t81 t82 t83 t84 t85 t86 t87 t88 t89 t90 t91 t92 t93 t94 t95 t96 t97 t98 t99 t100 t101 t102 t103 t104 t105 t106 t107 t108 t109 t110 t111 t112 t113 t114 t115 t116 t117 t118 t119 t120 t121 t122 t123 t124 t125 t126 t127 t128 t129 t130 t131 t132 : Value) :
   wpB Tryz.prog ns8 (bodyPost Tryz.prog Tryz.f8 (TrueP w)) { tmps := #[t0, t1, .bool false, .int .i64 k, t4, t5, .slice (some ⟨g, off, none⟩) (k + 2) cap, t7, .int .i64 0, .int .i64 p, t10, t11, t12, t13, t14, t15, t16, t17, t18, t19, t20, t21, t22, t23, t24, t25, t26, t27, t28, t29, t30, t31, t32, t33, t34, t35, t36, t37, t38, t39, t40, t41, t42, t43, t44, t45, t46, t47, t48, t49, t50, t51, t52, t53, t54, t55, t56, t57, t58, t59, t60, t61, t62, t63, t64, t65, t66, t67, t68, t69, t70, t71, t72, t73, t74, t75, t76, t77, t78, t79, t80, t81, t82, t83, t84, t85, t86, t87, t88, t89, t90, t91, t92, t93, t94, t95, t96, t97, t98, t99, t100, t101, t102, t103, t104, t105, t106, t107, t108, t109, t110, t111, t112, t113, t114, t115, t116, t117, t118, t119, t120, t121, t122, t123, t124, t125, t126, t127, t128, t129, t130, t131, t132], defers := [] } w1 := by
 rw [ns8_is]
 generalize hB : bodyPost Tryz.prog Tryz.f8 (TrueP w) = B at HE ⊢
 clear hB
 generalize hX : ns12 = X at HE ⊢
 clear hX
 have hY : ∃ Y, Y = Code.seq (seqL ns9) (.seq (seqL ns10) (.seq (seqL ns11) X)) := ⟨_, rfl⟩
 obtain ⟨Y, hY⟩ := hY
 rw [<- hY]
 refine wpB_seq_lone hP fun T d => ?_
 have c0' : (re w1 T d).cell? ⟨g, off + (k + 1) * 6, none⟩ = some (.int .i64 (k + 2)) := c0
 have c5' : (re w1 T d).cell? ⟨g, off + (k + 1) * 6 + 5, none⟩ = some (.int .i64 (5 + k)) := c5
 clear c0 c5
 simp only [ns8, ns7, ns6, ns5, ns4, ns3, ns2, ns1, ns0, seqL, seqR, regOps, Tryz.f8, Option.getD_some]
 go_wp2_with fail
 subst hY
 refine wpB_tape ?_
 refine wpB_seq_lone hP fun T d => ?_
 have hY : ∃ Y, Y = Code.seq (seqL ns10) (.seq (seqL ns11) X) := ⟨_, rfl⟩
 obtain ⟨Y, hY⟩ := hY
 rw [<- hY]
 simp only [ns9, ns8, ns7, ns6, ns5, ns4, ns3, ns2, ns1, ns0, seqL, seqR, regOps, Tryz.f8, Option.getD_some]
 go_wp2_with fail
 subst hY
 refine wpB_tape ?_
 refine wpB_seq_lone hP fun T d => ?_
 have hY : ∃ Y, Y = Code.seq (seqL ns11) X := ⟨_, rfl⟩
 obtain ⟨Y, hY⟩ := hY
 rw [<- hY]
 simp only [ns10, ns9, ns8, ns7, ns6, ns5, ns4, ns3, ns2, ns1, ns0, seqL, seqR, regOps, Tryz.f8, Option.getD_some]
 go_wp2_with fail
 subst hY
 refine wpB_tape ?_
 refine wpB_seq_lone hP fun T d => ?_
 simp only [ns11, ns10, ns9, ns8, ns7, ns6, ns5, ns4, ns3, ns2, ns1, ns0, seqL, seqR, regOps, Tryz.f8, Option.getD_some]
 go_wp2_with fail
 go_loopg [11, 13] (270 + k) (fun g x y wq => ∃ i : Nat, x = .string (manyT i) /\ y = .int .i64 i /\ i <= 270 + k /\ g = 270 + k - i /\ wq = re w1 T d)
 case atStart => exact ⟨0, rfl, rfl, Nat.zero_le _, rfl, rfl⟩
 case round =>
   obtain ⟨i, rfl, rfl, hi, hg, rfl⟩ := hrel
   have HG := Lib.hid hg
   clear hg
   have hz : ¬ 9223372036854775807 < (manyT i).size + 5 := by rw [many_size]; omega
   by_cases hlt : i < 270 + k
   · go_wp2_with fail
     go_roundg (270 + k - (i + 1))
     case measure => have := HG.out; omega
     case rel => exact ⟨i + 1, rfl, by simp, by omega, rfl, rfl⟩
   · obtain rfl : i = 270 + k := by omega
     go_wp2_with fail
     exact HE.out _ _ _ _ _ _ _ _ _ _ _ _ _ _ _ _ _ _ _ _ _ _ _ _ _ _ _ _ _ _ _ _ _ _ _ _ _ _ _ _ _ _ _ _ _ _ _ _ _ _ _ _ _ _ _ _ _ _ _ _ _ _ _ _ _ _ _ _ _ _ _ _ _ _ _ _ _ _ _ _ _ _ _ _ _ _ _ _ _ _ _ _ _ _ _ _ _ _ _ _ _ _ _ _ _ _ _ _ _ _ _ _ _ _ _ _ _ _ _ _ _ _ _ _ _ _ _ _ _
theorem nests_midB (hP : TameProg Tryz.prog) (w w1 : World) (k : Nat) (hk0 : k < 60) (hk : 22 < k) (HE : Hid (∀ (t0 t1 t4 t5 t6 t7 t8 t9 t10 t13 t14 t15 t16 t17 t18 t19 t20 t21 t22 t23 t24 t25 t26 t27 t28 t29 t30 t31 t32 t33 t34 t35 t36 t37 t38 t39 t40 t41 t42 t43 t44 t45 t46 t47 t48 t49 t50 t51 t52 t53 t54 t55 t56 t57 t58 t59 t60 t61 t62 t63 t64 t65 t66 t67 t68 t69 t70 t71 t72 t73 t74 t75 t76 t77 t78 t79 t80 t81 t82 t83 t84 t85 t86 t87 t88 t89 t90 t91 t92 t93 t94 t95 t96 t97 t98 t99 t100 t101 t102 t103 t104 t105 t106 t107 t108 t109 t110 t111 t112 t113 t114 t115 t116 t117 t118 t119 t120 t121 t122 t123 t124 t125 t126 t127 t128 t129 t130 t131 t132 : Value), wpB Tryz.prog ns12 (bodyPost Tryz.prog Tryz.f8 (TrueP w)) { tmps := #[t0, t1, .bool false, .int .i64 k, t4, t5, t6, t7, t8, t9, t10, .string (manyT (270 + k)), .int .i64 (270 + k), t13, t14, t15, t16, t17, t18, t19, t20, t21, t22, t23, t24, t25, t26, t27, t28, t29, t30, t31, t32, t33, t34, t35, t36, t37, t38, t39, t40, t41, t42, t43, t44, t45, t46, t47, t48, t49, t50, t51, t52, t53, t54, t55, t56, t57, t58, t59, t60, t61, t62, t63, t64, t65, t66, t67, t68, t69, t70, t71, t72, t73, t74, t75, t76, t77, t78, t79, t80, t81, t82, t83, t84, t85, t86, t87, t88, t89, t90, t91, t92, t93, t94, t95, t96, t97, t98, t99, t100, t101, t102, t103, t104, t105, t106, t107, t108, t109, t110, t111, t112, t113, t114, t115, t116, t117, t118, t119, t120, t121, t122, t123, t124, t125, t126, t127, t128, t129, t130, t131, t132], defers := [] } w1)) (t0 t1 t4 t5 t7 t10 t11 t12 t13 t14 t15 t16 t17 t18 t19 t20 t21 t22 t23 t24 t25 t26 t27 t28 t29 t30 t31 t32 t33 t34 t35 t36 t37 t38 t39 t40 t41 t42 t43 t44 t45 t46 t47 t48 t49 t50 t51 t52 t53 t54 t55 t56 t57 t58 t59 t60 t61 t62 t63 t64 t65 t66 t67 t68 t69 t70 t71 t72 t73 t74 t75 t76 t77 t78 t79 t80 t81 t82 t83 t84 t85 t86 t87 t88 t89 t90 t91 t92 t93 t94 t95 t96 t97 t98 t99 t100 t101 t102 t103 t104 t105 t106 t107 t108 t109 t110 t111 t112 t113 t114 t115 t116 t117 t118 t119 t120 t121 t122 t123 t124 t125 t126 t127 t128 t129 t130 t131 t132 : Value) :
   wpB Tryz.prog ns8 (bodyPost Tryz.prog Tryz.f8 (TrueP w)) { tmps := #[t0, t1, .bool false, .int .i64 k, t4, t5, .slice none 0 0, t7, .int .i64 31, .int .i64 28, t10, t11, t12, t13, t14, t15, t16, t17, t18, t19, t20, t21, t22, t23, t24, t25, t26, t27, t28, t29, t30, t31, t32, t33, t34, t35, t36, t37, t38, t39, t40, t41, t42, t43, t44, t45, t46, t47, t48, t49, t50, t51, t52, t53, t54, t55, t56, t57, t58, t59, t60, t61, t62, t63, t64, t65, t66, t67, t68, t69, t70, t71, t72, t73, t74, t75, t76, t77, t78, t79, t80, t81, t82, t83, t84, t85, t86, t87, t88, t89, t90, t91, t92, t93, t94, t95, t96, t97, t98, t99, t100, t101, t102, t103, t104, t105, t106, t107, t108, t109, t110, t111, t112, t113, t114, t115, t116, t117, t118, t119, t120, t121, t122, t123, t124, t125, t126, t127, t128, t129, t130, t131, t132], defers := [] } w1 := by
 rw [ns8_is]
 generalize hB : bodyPost Tryz.prog Tryz.f8 (TrueP w) = B at HE ⊢
 clear hB
 generalize hX : ns12 = X at HE ⊢
 clear hX
 have hY : ∃ Y, Y = Code.seq (seqL ns9) (.seq (seqL ns10) (.seq (seqL ns11) X)) := ⟨_, rfl⟩
 obtain ⟨Y, hY⟩ := hY
 rw [<- hY]
 refine wpB_seq_lone hP fun T d => ?_
 simp only [ns8, ns7, ns6, ns5, ns4, ns3, ns2, ns1, ns0, seqL, seqR, regOps, Tryz.f8, Option.getD_some]
 go_wp2_with fail
 subst hY
 refine wpB_tape ?_
 refine wpB_seq_lone hP fun T d => ?_
 have hY : ∃ Y, Y = Code.seq (seqL ns10) (.seq (seqL ns11) X) := ⟨_, rfl⟩
 obtain ⟨Y, hY⟩ := hY
 rw [<- hY]
 simp only [ns9, ns8, ns7, ns6, ns5, ns4, ns3, ns2, ns1, ns0, seqL, seqR, regOps, Tryz.f8, Option.getD_some]
 go_wp2_with fail
 subst hY
 refine wpB_tape ?_
 refine wpB_seq_lone hP fun T d => ?_
 have hY : ∃ Y, Y = Code.seq (seqL ns11) X := ⟨_, rfl⟩
 obtain ⟨Y, hY⟩ := hY
 rw [<- hY]
 simp only [ns10, ns9, ns8, ns7, ns6, ns5, ns4, ns3, ns2, ns1, ns0, seqL, seqR, regOps, Tryz.f8, Option.getD_some]
 go_wp2_with fail
 subst hY
 refine wpB_tape ?_
 refine wpB_seq_lone hP fun T d => ?_
 simp only [ns11, ns10, ns9, ns8, ns7, ns6, ns5, ns4, ns3, ns2, ns1, ns0, seqL, seqR, regOps, Tryz.f8, Option.getD_some]
 go_wp2_with fail
 go_loopg [11, 13] (270 + k) (fun g x y wq => ∃ i : Nat, x = .string (manyT i) /\ y = .int .i64 i /\ i <= 270 + k /\ g = 270 + k - i /\ wq = re w1 T d)
 case atStart => exact ⟨0, rfl, rfl, Nat.zero_le _, rfl, rfl⟩
 case round =>
   obtain ⟨i, rfl, rfl, hi, hg, rfl⟩ := hrel
   have HG := Lib.hid hg
   clear hg
   have hz : ¬ 9223372036854775807 < (manyT i).size + 5 := by rw [many_size]; omega
   by_cases hlt : i < 270 + k
   · go_wp2_with fail
     go_roundg (270 + k - (i + 1))
     case measure => have := HG.out; omega
     case rel => exact ⟨i + 1, rfl, by simp, by omega, rfl, rfl⟩
   · obtain rfl : i = 270 + k := by omega
     go_wp2_with fail
     exact HE.out _ _ _ _ _ _ _ _ _ _ _ _ _ _ _ _ _ _ _ _ _ _ _ _ _ _ _ _ _ _ _ _ _ _ _ _ _ _ _ _ _ _ _ _ _ _ _ _ _ _ _ _ _ _ _ _ _ _ _ _ _ _ _ _ _ _ _ _ _ _ _ _ _ _ _ _ _ _ _ _ _ _ _ _ _ _ _ _ _ _ _ _ _ _ _ _ _ _ _ _ _ _ _ _ _ _ _ _ _ _ _ _ _ _ _ _ _ _ _ _ _ _ _ _ _ _ _ _ _
end Go.Proofs.YtonmcakdofbjiaaGreatDoor
namespace Go.Proofs.YtonmcakdofbjiaaGreatDoor
open Go.RowKit Go.Bsd
theorem nests_fix (hP : TameProg Tryz.prog) (w w1 : World) (hv : VarsOk w1) (b : Addr) (hr : w1.cell? ⟨0, 0, none⟩ = some (.iface 253 (.pointer (some b)))) (k : Nat) (e p : Int) (sl : Value) (HE : Hid (∀ w2, Kin w1 w2 -> ∀ (t0 t1 t4 t5 t7 t10 t11 t12 t13 t14 t15 t16 t17 t18 t19 t20 t21 t22 t23 t24 t25 t26 t27 t28 t29 t30 t31 t32 t33 t34 t35 t36 t37 t38 t39 t40 t41 t42 t43 t44 t45 t46 t47 t48 t49 t50 t51 t52 t53 t54 t55 t56 t57 t58 t59 t60 t61 t62 t63 t64 t65 t66 t67 t68 t69 t70 t71 t72 t73 t74 t75 t76 t77 t78 t79 t80 t81 t82 t83 t84 t85 t86 t87 t88 t89 t90 t91 t92 t93 t94 t95 t96 t97 t98 t99 t100 t101 t102 t103 t104 t105 t106 t107 t108 t109 t110 t111 t112 t113 t114 t115 t116 t117 t118 t119 t120 t121 t122 t123 t124 t125 t126 t127 t128 t129 t130 t131 t132 : Value), wpB Tryz.prog ns8 (bodyPost Tryz.prog Tryz.f8 (TrueP w)) { tmps := #[t0, t1, .bool false, .int .i64 k, t4, t5, sl, t7, .int .i64 e, .int .i64 p, t10, t11, t12, t13, t14, t15, t16, t17, t18, t19, t20, t21, t22, t23, t24, t25, t26, t27, t28, t29, t30, t31, t32, t33, t34, t35, t36, t37, t38, t39, t40, t41, t42, t43, t44, t45, t46, t47, t48, t49, t50, t51, t52, t53, t54, t55, t56, t57, t58, t59, t60, t61, t62, t63, t64, t65, t66, t67, t68, t69, t70, t71, t72, t73, t74, t75, t76, t77, t78, t79, t80, t81, t82, t83, t84, t85, t86, t87, t88, t89, t90, t91, t92, t93, t94, t95, t96, t97, t98, t99, t100, t101, t102, t103, t104, t105, t106, t107, t108, t109, t110, t111, t112, t113, t114, t115, t116, t117, t118, t119, t120, t121, t122, t123, t124, t125, t126, t127, t128, t129, t130, t131, t132], defers := [] } w2)) (t0 t1 t4 t5 t7 t11 t12 t13 t14 t15 t16 t17 t18 t19 t20 t21 t22 t23 t24 t25 t26 t27 t28 t29 t30 t31 t32 t33 t34 t35 t36 t37 t38 t39 t40 t41 t42 t43 t44 t45 t46 t47 t48 t49 t50 t51 t52 t53 t54 t55 t56 t57 t58 t59 t60 t61 t62 t63 t64 t65 t66 t67 t68 t69 t70 t71 t72 t73 t74 t75 t76 t77 t78 t79 t80 t81 t82 t83 t84 t85 t86 t87 t88 t89 t90 t91 t92 t93 t94 t95 t96 t97 t98 t99 t100 t101 t102 t103 t104 t105 t106 t107 t108 t109 t110 t111 t112 t113 t114 t115 t116 t117 t118 t119 t120 t121 t122 t123 t124 t125 t126 t127 t128 t129 t130 t131 t132 : Value) :
   wpB Tryz.prog ns7 (bodyPost Tryz.prog Tryz.f8 (TrueP w)) { tmps := #[t0, t1, .bool false, .int .i64 k, t4, t5, sl, t7, .int .i64 e, .int .i64 p, .bool true, t11, t12, t13, t14, t15, t16, t17, t18, t19, t20, t21, t22, t23, t24, t25, t26, t27, t28, t29, t30, t31, t32, t33, t34, t35, t36, t37, t38, t39, t40, t41, t42, t43, t44, t45, t46, t47, t48, t49, t50, t51, t52, t53, t54, t55, t56, t57, t58, t59, t60, t61, t62, t63, t64, t65, t66, t67, t68, t69, t70, t71, t72, t73, t74, t75, t76, t77, t78, t79, t80, t81, t82, t83, t84, t85, t86, t87, t88, t89, t90, t91, t92, t93, t94, t95, t96, t97, t98, t99, t100, t101, t102, t103, t104, t105, t106, t107, t108, t109, t110, t111, t112, t113, t114, t115, t116, t117, t118, t119, t120, t121, t122, t123, t124, t125, t126, t127, t128, t129, t130, t131, t132], defers := [] } w1 := by
 have HP := Lib.hid (fixed_any hP 253 _ w1 hv hr)
 clear hv hr
 rw [ns7_is]
 refine wpB_seq hP ?_
 refine wpB_seq hP ?_
 obtain ⟨id, hid⟩ := ns7_reg
 rw [hid]
 clear hid
 generalize hB : bodyPost Tryz.prog Tryz.f8 (TrueP w) = B at HE ⊢
 clear hB
 generalize hX : ns8 = X at HE ⊢
 clear hX
 generalize hZ : seqR (seqL ns7) = Z
 have HZ := Lib.hid hZ
 clear hZ
 simp only [ns7, ns6, ns5, ns4, ns3, ns2, ns1, ns0, seqL, seqR, regOps, Tryz.f8, Option.getD_some]
 refine wpB_region hP (l := [_, _, _, _, _, _]) ?_
 refine listB_cut hP [_, _, _] [_, _, _] fun T d => ?_
 generalize hN : listB Tryz.prog _ _ _ = N
 have HN := Lib.hid hN
 clear hN
 go_wp2
 rw [<- HN.out]
 refine listB_tape ?_
 refine listB_fn hP Tryz.func13 (by kernel_rfl) (by kernel_rfl) rfl rfl (args := #[]) (by simp) (HP.out.mono ?_)
 rintro e' w2 hpost
 cases e' with
 | outgrown => exact hpost.elim
 | panicked _ => exact hpost.elim
 | returned v =>
   obtain ⟨rfl, k2⟩ := hpost
   have hE2 := Lib.hid (HE.out w2 k2)
   clear HE k2 HN HP
   show listB Tryz.prog _ _ _ _ w2
   generalize hM : Exit.then (wpB Tryz.prog Z _) _ = M
   have HM := Lib.hid hM
   clear hM
   refine listB_lift hP fun T d => ?_
   go_wp2
   rw [<- HM.out]
   show wpB Tryz.prog Z _ _ _
   rw [<- HZ.out]
   clear HM HZ
   refine wpB_tape ?_
   refine wpB_lift hP fun T d => ?_
   simp only [ns7, ns6, ns5, ns4, ns3, ns2, ns1, ns0, seqL, seqR, regOps, Tryz.f8, Option.getD_some]
   go_wp2_with fail
   exact hE2.out _ _ _ _ _ _ _ _ _ _ _ _ _ _ _ _ _ _ _ _ _ _ _ _ _ _ _ _ _ _ _ _ _ _ _ _ _ _ _ _ _ _ _ _ _ _ _ _ _ _ _ _ _ _ _ _ _ _ _ _ _ _ _ _ _ _ _ _ _ _ _ _ _ _ _ _ _ _ _ _ _ _ _ _ _ _ _ _ _ _ _ _ _ _ _ _ _ _ _ _ _ _ _ _ _ _ _ _ _ _ _ _ _ _ _ _ _ _ _ _ _ _ _ _ _ _ _ _
theorem nests_told (hP : TameProg Tryz.prog) (w w1 : World) (k : Nat) (e p : Int) (sl er : Value) (HT : Hid (∀ T d, Calls Tryz.prog 22 #[er] (re w1 T d) fun x w' => x = .returned (.tuple #[.int .i64 e, .int .i64 p, .bool true]) /\ Hid (Kin w1 w'))) (HE : Hid (∀ w2, Kin w1 w2 -> ∀ (t0 t1 t4 t5 t7 t11 t12 t13 t14 t15 t16 t17 t18 t19 t20 t21 t22 t23 t24 t25 t26 t27 t28 t29 t30 t31 t32 t33 t34 t35 t36 t37 t38 t39 t40 t41 t42 t43 t44 t45 t46 t47 t48 t49 t50 t51 t52 t53 t54 t55 t56 t57 t58 t59 t60 t61 t62 t63 t64 t65 t66 t67 t68 t69 t70 t71 t72 t73 t74 t75 t76 t77 t78 t79 t80 t81 t82 t83 t84 t85 t86 t87 t88 t89 t90 t91 t92 t93 t94 t95 t96 t97 t98 t99 t100 t101 t102 t103 t104 t105 t106 t107 t108 t109 t110 t111 t112 t113 t114 t115 t116 t117 t118 t119 t120 t121 t122 t123 t124 t125 t126 t127 t128 t129 t130 t131 t132 : Value), wpB Tryz.prog ns7 (bodyPost Tryz.prog Tryz.f8 (TrueP w)) { tmps := #[t0, t1, .bool false, .int .i64 k, t4, t5, sl, t7, .int .i64 e, .int .i64 p, .bool true, t11, t12, t13, t14, t15, t16, t17, t18, t19, t20, t21, t22, t23, t24, t25, t26, t27, t28, t29, t30, t31, t32, t33, t34, t35, t36, t37, t38, t39, t40, t41, t42, t43, t44, t45, t46, t47, t48, t49, t50, t51, t52, t53, t54, t55, t56, t57, t58, t59, t60, t61, t62, t63, t64, t65, t66, t67, t68, t69, t70, t71, t72, t73, t74, t75, t76, t77, t78, t79, t80, t81, t82, t83, t84, t85, t86, t87, t88, t89, t90, t91, t92, t93, t94, t95, t96, t97, t98, t99, t100, t101, t102, t103, t104, t105, t106, t107, t108, t109, t110, t111, t112, t113, t114, t115, t116, t117, t118, t119, t120, t121, t122, t123, t124, t125, t126, t127, t128, t129, t130, t131, t132], defers := [] } w2)) (t0 t1 t4 t5 t8 t9 t10 t11 t12 t13 t14 t15 t16 t17 t18 t19 t20 t21 t22 t23 t24 t25 t26 t27 t28 t29 t30 t31 t32 t33 t34 t35 t36 t37 t38 t39 t40 t41 t42 t43 t44 t45 t46 t47 t48 t49 t50 t51 t52 t53 t54 t55 t56 t57 t58 t59 t60 t61 t62 t63 t64 t65 t66 t67 t68 t69 t70 t71 t72 t73 t74 t75 t76 t77 t78 t79 t80 t81 t82 t83 t84 t85 t86 t87 t88 t89 t90 t91 t92 t93 t94 t95 t96 t97 t98 t99 t100 t101 t102 t103 t104 t105 t106 t107 t108 t109 t110 t111 t112 t113 t114 t115 t116 t117 t118 t119 t120 t121 t122 t123 t124 t125 t126 t127 t128 t129 t130 t131 t132 : Value) :
   wpB Tryz.prog ns6 (bodyPost Tryz.prog Tryz.f8 (TrueP w)) { tmps := #[t0, t1, .bool false, .int .i64 k, t4, t5, sl, er, t8, t9, t10, t11, t12, t13, t14, t15, t16, t17, t18, t19, t20, t21, t22, t23, t24, t25, t26, t27, t28, t29, t30, t31, t32, t33, t34, t35, t36, t37, t38, t39, t40, t41, t42, t43, t44, t45, t46, t47, t48, t49, t50, t51, t52, t53, t54, t55, t56, t57, t58, t59, t60, t61, t62, t63, t64, t65, t66, t67, t68, t69, t70, t71, t72, t73, t74, t75, t76, t77, t78, t79, t80, t81, t82, t83, t84, t85, t86, t87, t88, t89, t90, t91, t92, t93, t94, t95, t96, t97, t98, t99, t100, t101, t102, t103, t104, t105, t106, t107, t108, t109, t110, t111, t112, t113, t114, t115, t116, t117, t118, t119, t120, t121, t122, t123, t124, t125, t126, t127, t128, t129, t130, t131, t132], defers := [] } w1 := by
 rw [ns6_is]
 refine wpB_seq_lone hP fun T d => ?_
 generalize hB : bodyPost Tryz.prog Tryz.f8 (TrueP w) = B at HE ⊢
 clear hB
 generalize hX : ns7 = X at HE ⊢
 clear hX
 simp only [ns6, ns5, ns4, ns3, ns2, ns1, ns0, seqL, seqR, regOps, Tryz.f8, Option.getD_some]
 go_wp2_with (go_at_call 22; with_reducible refine (HT.out T d).mono ?_; rintro x w' ⟨rfl, hk⟩)
 exact HE.out w' hk.out _ _ _ _ _ _ _ _ _ _ _ _ _ _ _ _ _ _ _ _ _ _ _ _ _ _ _ _ _ _ _ _ _ _ _ _ _ _ _ _ _ _ _ _ _ _ _ _ _ _ _ _ _ _ _ _ _ _ _ _ _ _ _ _ _ _ _ _ _ _ _ _ _ _ _ _ _ _ _ _ _ _ _ _ _ _ _ _ _ _ _ _ _ _ _ _ _ _ _ _ _ _ _ _ _ _ _ _ _ _ _ _ _ _ _ _ _ _ _ _ _ _ _ _ _ _ _
end Go.Proofs.YtonmcakdofbjiaaGreatDoor
namespace Go.Proofs.YtonmcakdofbjiaaGreatDoor
open Go.RowKit Go.Bsd
theorem nests_restA (hP : TameProg Tryz.prog) (w w1 : World) (kw : Kin w w1) (hv : VarsOk w1) (b : Addr) (hr : w1.cell? ⟨0, 0, none⟩ = some (.iface 253 (.pointer (some b)))) (hg : ErrTy w1) (k : Nat) (hk0 : k < 60) (hk : k <= 22) (g off cap : Nat) (hcap : k + 2 <= cap) (c0 : w1.cell? ⟨g, off + (k + 1) * 6, none⟩ = some (.int .i64 (k + 2))) (c5 : w1.cell? ⟨g, off + (k + 1) * 6 + 5, none⟩ = some (.int .i64 (5 + k))) (t0 t1 t4 t5 t8 t9 t10 t11 t12 t13 t14 t15 t16 t17 t18 t19 t20 t21 t22 t23 t24 t25 t26 t27 t28 t29 t30 t31 t32 t33 t34 t35 t36 t37 t38 t39 t40 t41 t42 t43 t44 t45 t46 t47 t48 t49 t50 t51 t52 t53 t54 t55 t56 t57 t58 t59 t60 t61 t62 t63 t64 t65 t66 t67 t68 t69 t70 t71 t72 t73 t74 t75 t76 t77 t78 t79 t80 t81 t82 t83 t84 t85 t86 t87 t88 t89 t90 t91 t92 t93 t94 t95 t96 t97 t98 t99 t100 t101 t102 t103 t104 t105 t106 t107 t108 t109 t110 t111 t112 t113 t114 t115 t116 t117 t118 t119 t120 t121 t122 t123 t124 t125 t126 t127 t128 t129 t130 t131 t132 : Value) :
   wpB Tryz.prog ns6 (bodyPost Tryz.prog Tryz.f8 (TrueP w)) { tmps := #[t0, t1, .bool false, .int .i64 k, t4, t5, .slice (some ⟨g, off, none⟩) (k + 2) cap, .nilIface, t8, t9, t10, t11, t12, t13, t14, t15, t16, t17, t18, t19, t20, t21, t22, t23, t24, t25, t26, t27, t28, t29, t30, t31, t32, t33, t34, t35, t36, t37, t38, t39, t40, t41, t42, t43, t44, t45, t46, t47, t48, t49, t50, t51, t52, t53, t54, t55, t56, t57, t58, t59, t60, t61, t62, t63, t64, t65, t66, t67, t68, t69, t70, t71, t72, t73, t74, t75, t76, t77, t78, t79, t80, t81, t82, t83, t84, t85, t86, t87, t88, t89, t90, t91, t92, t93, t94, t95, t96, t97, t98, t99, t100, t101, t102, t103, t104, t105, t106, t107, t108, t109, t110, t111, t112, t113, t114, t115, t116, t117, t118, t119, t120, t121, t122, t123, t124, t125, t126, t127, t128, t129, t130, t131, t132], defers := [] } w1 := by
 have HT : Hid (∀ T d, Calls Tryz.prog 22 #[.nilIface] (re w1 T d) fun x w' => x = .returned (.tuple #[.int .i64 0, .int .i64 0, .bool true]) /\ Hid (Kin w1 w')) := Lib.hid fun T d => (told_nil (re w1 T d)).mono fun e w' h => ⟨h.1, Lib.hid (by rw [h.2]; exact kin_re w1 T d)⟩
 refine nests_told hP w w1 k 0 0 (.slice (some ⟨g, off, none⟩) (k + 2) cap) (.nilIface) HT (Lib.hid fun w2 k2 => ?_) _ _ _ _ _ _ _ _ _ _ _ _ _ _ _ _ _ _ _ _ _ _ _ _ _ _ _ _ _ _ _ _ _ _ _ _ _ _ _ _ _ _ _ _ _ _ _ _ _ _ _ _ _ _ _ _ _ _ _ _ _ _ _ _ _ _ _ _ _ _ _ _ _ _ _ _ _ _ _ _ _ _ _ _ _ _ _ _ _ _ _ _ _ _ _ _ _ _ _ _ _ _ _ _ _ _ _ _ _ _ _ _ _ _ _ _ _ _ _ _ _ _ _ _ _ _ _ _ _
 intros
 refine nests_fix hP w w2 (hv.kin k2) b ((k2.cell (World.block_lt_of_cell? w1 _ hr)).trans hr) k 0 0 (.slice (some ⟨g, off, none⟩) (k + 2) cap) (Lib.hid fun w3 k3 => ?_) _ _ _ _ _ _ _ _ _ _ _ _ _ _ _ _ _ _ _ _ _ _ _ _ _ _ _ _ _ _ _ _ _ _ _ _ _ _ _ _ _ _ _ _ _ _ _ _ _ _ _ _ _ _ _ _ _ _ _ _ _ _ _ _ _ _ _ _ _ _ _ _ _ _ _ _ _ _ _ _ _ _ _ _ _ _ _ _ _ _ _ _ _ _ _ _ _ _ _ _ _ _ _ _ _ _ _ _ _ _ _ _ _ _ _ _ _ _ _ _ _ _ _ _ _ _ _
 intros
 have k13 := k2.trans k3
 refine nests_midA hP w w3 k hk0 hk g off cap hcap ((k13.cell (World.block_lt_of_cell? w1 _ c0)).trans c0) ((k13.cell (World.block_lt_of_cell? w1 _ c5)).trans c5) 0 (Lib.hid ?_) _ _ _ _ _ _ _ _ _ _ _ _ _ _ _ _ _ _ _ _ _ _ _ _ _ _ _ _ _ _ _ _ _ _ _ _ _ _ _ _ _ _ _ _ _ _ _ _ _ _ _ _ _ _ _ _ _ _ _ _ _ _ _ _ _ _ _ _ _ _ _ _ _ _ _ _ _ _ _ _ _ _ _ _ _ _ _ _ _ _ _ _ _ _ _ _ _ _ _ _ _ _ _ _ _ _ _ _ _ _ _ _ _ _ _ _ _ _ _ _ _ _ _ _ _ _ _ _
 intros
 exact nests_two hP w w3 (kw.trans k13) (hv.kin k13) b ((k13.cell (World.block_lt_of_cell? w1 _ hr)).trans hr) (hg.kin k13) k hk0 _ _ _ _ _ _ _ _ _ _ _ _ _ _ _ _ _ _ _ _ _ _ _ _ _ _ _ _ _ _ _ _ _ _ _ _ _ _ _ _ _ _ _ _ _ _ _ _ _ _ _ _ _ _ _ _ _ _ _ _ _ _ _ _ _ _ _ _ _ _ _ _ _ _ _ _ _ _ _ _ _ _ _ _ _ _ _ _ _ _ _ _ _ _ _ _ _ _ _ _ _ _ _ _ _ _ _ _ _ _ _ _ _ _ _ _ _ _ _ _ _ _ _ _ _ _ _ _ _
theorem nests_restB (hP : TameProg Tryz.prog) (w w1 : World) (kw : Kin w w1) (hv : VarsOk w1) (b : Addr) (hr : w1.cell? ⟨0, 0, none⟩ = some (.iface 253 (.pointer (some b)))) (hg : ErrTy w1) (k : Nat) (hk0 : k < 60) (hk : 22 < k) (q : Nat) (hc : w1.heap[q]? = some (.cells #[.int .i64 31, .int .i64 28, .iface 253 (.pointer (some b))] 73 (0, 0))) (t0 t1 t4 t5 t8 t9 t10 t11 t12 t13 t14 t15 t16 t17 t18 t19 t20 t21 t22 t23 t24 t25 t26 t27 t28 t29 t30 t31 t32 t33 t34 t35 t36 t37 t38 t39 t40 t41 t42 t43 t44 t45 t46 t47 t48 t49 t50 t51 t52 t53 t54 t55 t56 t57 t58 t59 t60 t61 t62 t63 t64 t65 t66 t67 t68 t69 t70 t71 t72 t73 t74 t75 t76 t77 t78 t79 t80 t81 t82 t83 t84 t85 t86 t87 t88 t89 t90 t91 t92 t93 t94 t95 t96 t97 t98 t99 t100 t101 t102 t103 t104 t105 t106 t107 t108 t109 t110 t111 t112 t113 t114 t115 t116 t117 t118 t119 t120 t121 t122 t123 t124 t125 t126 t127 t128 t129 t130 t131 t132 : Value) :
   wpB Tryz.prog ns6 (bodyPost Tryz.prog Tryz.f8 (TrueP w)) { tmps := #[t0, t1, .bool false, .int .i64 k, t4, t5, .slice none 0 0, .iface 71 (.pointer (some ⟨q, 0, none⟩)), t8, t9, t10, t11, t12, t13, t14, t15, t16, t17, t18, t19, t20, t21, t22, t23, t24, t25, t26, t27, t28, t29, t30, t31, t32, t33, t34, t35, t36, t37, t38, t39, t40, t41, t42, t43, t44, t45, t46, t47, t48, t49, t50, t51, t52, t53, t54, t55, t56, t57, t58, t59, t60, t61, t62, t63, t64, t65, t66, t67, t68, t69, t70, t71, t72, t73, t74, t75, t76, t77, t78, t79, t80, t81, t82, t83, t84, t85, t86, t87, t88, t89, t90, t91, t92, t93, t94, t95, t96, t97, t98, t99, t100, t101, t102, t103, t104, t105, t106, t107, t108, t109, t110, t111, t112, t113, t114, t115, t116, t117, t118, t119, t120, t121, t122, t123, t124, t125, t126, t127, t128, t129, t130, t131, t132], defers := [] } w1 := by
 have HT : Hid (∀ T d, Calls Tryz.prog 22 #[.iface 71 (.pointer (some ⟨q, 0, none⟩))] (re w1 T d) fun x w' => x = .returned (.tuple #[.int .i64 31, .int .i64 28, .bool true]) /\ Hid (Kin w1 w')) := Lib.hid fun T d => (told_fault q 31 28 b (re w1 T d) (by simp [World.cell?, hc]) (by simp [World.cell?, hc]) (by simp [World.cell?, hc]) hr (ErrTy.kin hg (kin_re w1 T d))).mono fun e w' h => ⟨h.1, Lib.hid ((kin_re w1 T d).trans h.2)⟩
 refine nests_told hP w w1 k 31 28 (.slice none 0 0) (.iface 71 (.pointer (some ⟨q, 0, none⟩))) HT (Lib.hid fun w2 k2 => ?_) _ _ _ _ _ _ _ _ _ _ _ _ _ _ _ _ _ _ _ _ _ _ _ _ _ _ _ _ _ _ _ _ _ _ _ _ _ _ _ _ _ _ _ _ _ _ _ _ _ _ _ _ _ _ _ _ _ _ _ _ _ _ _ _ _ _ _ _ _ _ _ _ _ _ _ _ _ _ _ _ _ _ _ _ _ _ _ _ _ _ _ _ _ _ _ _ _ _ _ _ _ _ _ _ _ _ _ _ _ _ _ _ _ _ _ _ _ _ _ _ _ _ _ _ _ _ _ _ _
 intros
 refine nests_fix hP w w2 (hv.kin k2) b ((k2.cell (World.block_lt_of_cell? w1 _ hr)).trans hr) k 31 28 (.slice none 0 0) (Lib.hid fun w3 k3 => ?_) _ _ _ _ _ _ _ _ _ _ _ _ _ _ _ _ _ _ _ _ _ _ _ _ _ _ _ _ _ _ _ _ _ _ _ _ _ _ _ _ _ _ _ _ _ _ _ _ _ _ _ _ _ _ _ _ _ _ _ _ _ _ _ _ _ _ _ _ _ _ _ _ _ _ _ _ _ _ _ _ _ _ _ _ _ _ _ _ _ _ _ _ _ _ _ _ _ _ _ _ _ _ _ _ _ _ _ _ _ _ _ _ _ _ _ _ _ _ _ _ _ _ _ _ _ _ _
 intros
 have k13 := k2.trans k3
 refine nests_midB hP w w3 k hk0 hk (Lib.hid ?_) _ _ _ _ _ _ _ _ _ _ _ _ _ _ _ _ _ _ _ _ _ _ _ _ _ _ _ _ _ _ _ _ _ _ _ _ _ _ _ _ _ _ _ _ _ _ _ _ _ _ _ _ _ _ _ _ _ _ _ _ _ _ _ _ _ _ _ _ _ _ _ _ _ _ _ _ _ _ _ _ _ _ _ _ _ _ _ _ _ _ _ _ _ _ _ _ _ _ _ _ _ _ _ _ _ _ _ _ _ _ _ _ _ _ _ _ _ _ _ _ _ _ _ _ _ _ _ _
 intros
 exact nests_two hP w w3 (kw.trans k13) (hv.kin k13) b ((k13.cell (World.block_lt_of_cell? w1 _ hr)).trans hr) (hg.kin k13) k hk0 _ _ _ _ _ _ _ _ _ _ _ _ _ _ _ _ _ _ _ _ _ _ _ _ _ _ _ _ _ _ _ _ _ _ _ _ _ _ _ _ _ _ _ _ _ _ _ _ _ _ _ _ _ _ _ _ _ _ _ _ _ _ _ _ _ _ _ _ _ _ _ _ _ _ _ _ _ _ _ _ _ _ _ _ _ _ _ _ _ _ _ _ _ _ _ _ _ _ _ _ _ _ _ _ _ _ _ _ _ _ _ _ _ _ _ _ _ _ _ _ _ _ _ _ _ _ _ _ _
theorem nests_first (hP : TameProg Tryz.prog) (w w1 : World) (kw : Kin w w1) (hv : VarsOk w1) (b : Addr) (hr : w1.cell? ⟨0, 0, none⟩ = some (.iface 253 (.pointer (some b)))) (hg : ErrTy w1) (k : Nat) (hk0 : k < 60) (t0 t1 t5 t6 t7 t8 t9 t10 t11 t12 t13 t14 t15 t16 t17 t18 t19 t20 t21 t22 t23 t24 t25 t26 t27 t28 t29 t30 t31 t32 t33 t34 t35 t36 t37 t38 t39 t40 t41 t42 t43 t44 t45 t46 t47 t48 t49 t50 t51 t52 t53 t54 t55 t56 t57 t58 t59 t60 t61 t62 t63 t64 t65 t66 t67 t68 t69 t70 t71 t72 t73 t74 t75 t76 t77 t78 t79 t80 t81 t82 t83 t84 t85 t86 t87 t88 t89 t90 t91 t92 t93 t94 t95 t96 t97 t98 t99 t100 t101 t102 t103 t104 t105 t106 t107 t108 t109 t110 t111 t112 t113 t114 t115 t116 t117 t118 t119 t120 t121 t122 t123 t124 t125 t126 t127 t128 t129 t130 t131 t132 : Value) :
   wpB Tryz.prog ns5 (bodyPost Tryz.prog Tryz.f8 (TrueP w)) { tmps := #[t0, t1, .bool false, .int .i64 k, .string (nestT k), t5, t6, t7, t8, t9, t10, t11, t12, t13, t14, t15, t16, t17, t18, t19, t20, t21, t22, t23, t24, t25, t26, t27, t28, t29, t30, t31, t32, t33, t34, t35, t36, t37, t38, t39, t40, t41, t42, t43, t44, t45, t46, t47, t48, t49, t50, t51, t52, t53, t54, t55, t56, t57, t58, t59, t60, t61, t62, t63, t64, t65, t66, t67, t68, t69, t70, t71, t72, t73, t74, t75, t76, t77, t78, t79, t80, t81, t82, t83, t84, t85, t86, t87, t88, t89, t90, t91, t92, t93, t94, t95, t96, t97, t98, t99, t100, t101, t102, t103, t104, t105, t106, t107, t108, t109, t110, t111, t112, t113, t114, t115, t116, t117, t118, t119, t120, t121, t122, t123, t124, t125, t126, t127, t128, t129, t130, t131, t132], defers := [] } w1 := by
 have hz : (nestT k).size <= 9223372036854775807 := by
   have e : (nestT k).size = (bangs k).size + 2 := by unfold nestT; rw [ByteArray.size_append]; rfl
   rw [e, bangs_size]; omega
 obtain ⟨o, ho⟩ := parses_ex (nestT k)
 have HP := Lib.hid (parse_any hP (nestT k) hz 253 _ w1 hv hr o ho)
 have HV := Lib.hid hv
 have HR := Lib.hid hr
 have HG := Lib.hid hg
 have KW := Lib.hid kw
 have HO := Lib.hid ho
 clear hv hr hg kw ho hz
 rw [ns5_is]
 refine wpB_seq hP ?_
 obtain ⟨id, hid⟩ := ns5_reg
 rw [hid]
 clear hid
 generalize hX : ns6 = X
 have HX := Lib.hid hX
 clear hX
 generalize hB : bodyPost Tryz.prog Tryz.f8 (TrueP w) = B
 have HB := Lib.hid hB
 clear hB
 simp only [ns5, ns4, ns3, ns2, ns1, ns0, seqL, seqR, regOps, Tryz.f8, Option.getD_some]
 refine wpB_region hP (l := [_, _, _, _, _, _, _]) ?_
 refine listB_cut hP [_] [_, _, _, _, _, _] fun T d => ?_
 generalize hN : listB Tryz.prog _ _ _ = N
 have HN := Lib.hid hN
 clear hN
 go_wp2
 rw [<- HN.out]
 refine listB_tape ?_
 refine listB_fn hP Tryz.func14 (by kernel_rfl) (by kernel_rfl) rfl rfl (args := #[.string (nestT k)]) (by simp [Act.eval, evalT]) (HP.out.mono ?_)
 rintro e w2 hpost
 cases e with
 | outgrown => exact hpost.elim
 | panicked _ => exact hpost.elim
 | returned v =>
   have hE2 : ∃ sl er, v = .tuple #[sl, er] /\ Hid (∀ (t0 t1 t4 t5 t8 t9 t10 t11 t12 t13 t14 t15 t16 t17 t18 t19 t20 t21 t22 t23 t24 t25 t26 t27 t28 t29 t30 t31 t32 t33 t34 t35 t36 t37 t38 t39 t40 t41 t42 t43 t44 t45 t46 t47 t48 t49 t50 t51 t52 t53 t54 t55 t56 t57 t58 t59 t60 t61 t62 t63 t64 t65 t66 t67 t68 t69 t70 t71 t72 t73 t74 t75 t76 t77 t78 t79 t80 t81 t82 t83 t84 t85 t86 t87 t88 t89 t90 t91 t92 t93 t94 t95 t96 t97 t98 t99 t100 t101 t102 t103 t104 t105 t106 t107 t108 t109 t110 t111 t112 t113 t114 t115 t116 t117 t118 t119 t120 t121 t122 t123 t124 t125 t126 t127 t128 t129 t130 t131 t132 : Value), wpB Tryz.prog X B { tmps := #[t0, t1, .bool false, .int .i64 k, t4, t5, sl, er, t8, t9, t10, t11, t12, t13, t14, t15, t16, t17, t18, t19, t20, t21, t22, t23, t24, t25, t26, t27, t28, t29, t30, t31, t32, t33, t34, t35, t36, t37, t38, t39, t40, t41, t42, t43, t44, t45, t46, t47, t48, t49, t50, t51, t52, t53, t54, t55, t56, t57, t58, t59, t60, t61, t62, t63, t64, t65, t66, t67, t68, t69, t70, t71, t72, t73, t74, t75, t76, t77, t78, t79, t80, t81, t82, t83, t84, t85, t86, t87, t88, t89, t90, t91, t92, t93, t94, t95, t96, t97, t98, t99, t100, t101, t102, t103, t104, t105, t106, t107, t108, t109, t110, t111, t112, t113, t114, t115, t116, t117, t118, t119, t120, t121, t122, t123, t124, t125, t126, t127, t128, t129, t130, t131, t132], defers := [] } w2) := by
     rcases nest_parses k hk0 with ⟨hk, l, n, hp, hl, hn, hd, ha⟩ | ⟨hk, hp⟩
     · obtain rfl := parses_one HO.out hp
       obtain ⟨kin, sl, rfl, hown⟩ := hpost
       obtain ⟨b', cap, rfl, hcap, hne⟩ := NodesAt.of_owns hown
       obtain ⟨g, off, rfl, hcell⟩ := hne (by rintro rfl; simp at hl)
       have c0 := hcell (k + 1) n hn 0 (.int .i64 n.depth) rfl
       have c5 := hcell (k + 1) n hn 5 (.int .i64 n.at_) rfl
       rw [hd] at c0
       rw [ha] at c5
       rw [hl] at hcap ⊢
       refine ⟨_, _, rfl, Lib.hid ?_⟩
       intros
       rw [<- HX.out, <- HB.out]
       exact nests_restA hP w w2 (KW.out.trans kin) (HV.out.kin kin) b ((kin.cell (World.block_lt_of_cell? w1 _ HR.out)).trans HR.out) (HG.out.kin kin) k hk0 hk g off cap hcap c0 c5 _ _ _ _ _ _ _ _ _ _ _ _ _ _ _ _ _ _ _ _ _ _ _ _ _ _ _ _ _ _ _ _ _ _ _ _ _ _ _ _ _ _ _ _ _ _ _ _ _ _ _ _ _ _ _ _ _ _ _ _ _ _ _ _ _ _ _ _ _ _ _ _ _ _ _ _ _ _ _ _ _ _ _ _ _ _ _ _ _ _ _ _ _ _ _ _ _ _ _ _ _ _ _ _ _ _ _ _ _ _ _ _ _ _ _ _ _ _ _ _ _ _ _ _ _ _ _ _ _
     · obtain rfl := parses_one HO.out hp
       obtain ⟨kin, q, rfl, hq, hc⟩ := hpost
       refine ⟨_, _, rfl, Lib.hid ?_⟩
       intros
       rw [<- HX.out, <- HB.out]
       exact nests_restB hP w w2 (KW.out.trans kin) (HV.out.kin kin) b ((kin.cell (World.block_lt_of_cell? w1 _ HR.out)).trans HR.out) (HG.out.kin kin) k hk0 hk q hc _ _ _ _ _ _ _ _ _ _ _ _ _ _ _ _ _ _ _ _ _ _ _ _ _ _ _ _ _ _ _ _ _ _ _ _ _ _ _ _ _ _ _ _ _ _ _ _ _ _ _ _ _ _ _ _ _ _ _ _ _ _ _ _ _ _ _ _ _ _ _ _ _ _ _ _ _ _ _ _ _ _ _ _ _ _ _ _ _ _ _ _ _ _ _ _ _ _ _ _ _ _ _ _ _ _ _ _ _ _ _ _ _ _ _ _ _ _ _ _ _ _ _ _ _ _ _ _ _
   obtain ⟨sl, er, rfl, hE2⟩ := hE2
   clear hpost HN HP HR HG KW HB HX HV HO
   show listB Tryz.prog _ _ _ _ w2
   generalize hM : Exit.then (wpB Tryz.prog X B) B = M
   have HM := Lib.hid hM
   clear hM
   refine listB_lift hP fun T d => ?_
   go_wp2
   rw [<- HM.out]
   exact hE2.out _ _ _ _ _ _ _ _ _ _ _ _ _ _ _ _ _ _ _ _ _ _ _ _ _ _ _ _ _ _ _ _ _ _ _ _ _ _ _ _ _ _ _ _ _ _ _ _ _ _ _ _ _ _ _ _ _ _ _ _ _ _ _ _ _ _ _ _ _ _ _ _ _ _ _ _ _ _ _ _ _ _ _ _ _ _ _ _ _ _ _ _ _ _ _ _ _ _ _ _ _ _ _ _ _ _ _ _ _ _ _ _ _ _ _ _ _ _ _ _ _ _ _ _ _ _ _ _ _
end Go.Proofs.YtonmcakdofbjiaaGreatDoor
namespace Go.Proofs.YtonmcakdofbjiaaGreatDoor
open Go.RowKit Go.Bsd
theorem nests_any (hP : TameProg Tryz.prog) (w : World) (hv : VarsOk w) (b : Addr) (hr : w.cell? ⟨0, 0, none⟩ = some (.iface 253 (.pointer (some b)))) (hg : ErrTy w) (n : Int) : CallsB Tryz.prog 8 #[.int .i64 n] w (TrueP w) := by
 have hR : ∀ w', ¬ TrueP w .outgrown w' := fun w' h => h
 refine callsB_of_wpB hP Tryz.func8 (c := ns0) rfl hR ?_
 rw [ns0_is]
 have ha : (#[.int .i64 n] ++ Array.replicate (Tryz.f8.ntmps - (#[.int .i64 n] : Array Value).size) undef) = #[.int .i64 n, undef, undef, undef, undef, undef, undef, undef, undef, undef, undef, undef, undef, undef, undef, undef, undef, undef, undef, undef, undef, undef, undef, undef, undef, undef, undef, undef, undef, undef, undef, undef, undef, undef, undef, undef, undef, undef, undef, undef, undef, undef, undef, undef, undef, undef, undef, undef, undef, undef, undef, undef, undef, undef, undef, undef, undef, undef, undef, undef, undef, undef, undef, undef, undef, undef, undef, undef, undef, undef, undef, undef, undef, undef, undef, undef, undef, undef, undef, undef, undef, undef, undef, undef, undef, undef, undef, undef, undef, undef, undef, undef, undef, undef, undef, undef, undef, undef, undef, undef, undef, undef, undef, undef, undef, undef, undef, undef, undef, undef, undef, undef, undef, undef, undef, undef, undef, undef, undef, undef, undef, undef, undef, undef, undef, undef, undef, undef, undef, undef, undef, undef, undef] := by
   simp only [Tryz.ntmps8]
   simp [Array.replicate_succ]
 rw [ha]
 clear ha
 have HQ := Lib.hid (nests_first hP w w (Kin.refl w) hv b hr hg)
 have hrest : ∀ w0, Calls Tryz.prog 23 #[.int .i64 n, .int .i64 60] w0 fun e w' => (∃ k : Nat, k < 60 /\ e = .returned (.int .i64 k)) /\ w' = w0 := fun w0 => rest_any n 60 (by decide) (by decide) w0
 have HRS := Lib.hid hrest
 clear hv hr hg hrest
 generalize hB : bodyPost Tryz.prog Tryz.f8 (TrueP w) = B at HQ ⊢
 clear hB
 generalize hX : ns5 = X at HQ ⊢
 clear hX
 have hY : ∃ Y, Y = Code.seq (seqL ns1) (.seq (seqL ns2) (.seq (seqL ns3) (.seq (seqL ns4) X))) := ⟨_, rfl⟩
 obtain ⟨Y, hY⟩ := hY
 rw [<- hY]
 refine wpB_seq_lone hP fun T d => ?_
 simp only [ns0, seqL, seqR, regOps, Tryz.f8, Option.getD_some]
 go_wp2_with fail
 subst hY
 refine wpB_tape ?_
 refine wpB_seq_lone hP fun T d => ?_
 have hY : ∃ Y, Y = Code.seq (seqL ns2) (.seq (seqL ns3) (.seq (seqL ns4) X)) := ⟨_, rfl⟩
 obtain ⟨Y, hY⟩ := hY
 rw [<- hY]
 simp only [ns1, ns0, seqL, seqR, regOps, Tryz.f8, Option.getD_some]
 go_wp2_with (go_at_call 23; with_reducible refine (HRS.out _).mono ?_; rintro e w' ⟨⟨k, hk0, rfl⟩, rfl⟩)
 subst hY
 refine wpB_tape ?_
 refine wpB_seq_lone hP fun T d => ?_
 have hY : ∃ Y, Y = Code.seq (seqL ns3) (.seq (seqL ns4) X) := ⟨_, rfl⟩
 obtain ⟨Y, hY⟩ := hY
 rw [<- hY]
 simp only [ns2, ns1, ns0, seqL, seqR, regOps, Tryz.f8, Option.getD_some]
 go_wp2_with fail
 subst hY
 refine wpB_tape ?_
 refine wpB_seq_lone hP fun T d => ?_
 have hY : ∃ Y, Y = Code.seq (seqL ns4) X := ⟨_, rfl⟩
 obtain ⟨Y, hY⟩ := hY
 rw [<- hY]
 simp only [ns3, ns2, ns1, ns0, seqL, seqR, regOps, Tryz.f8, Option.getD_some]
 go_wp2_with fail
 go_loopg [4, 5] k (fun g x y wq => ∃ i : Nat, x = .string (bangs i) /\ y = .int .i64 i /\ i <= k /\ g = k - i /\ wq = re w T d)
 case atStart => exact ⟨0, rfl, rfl, Nat.zero_le _, rfl, rfl⟩
 case round =>
   obtain ⟨i, rfl, rfl, hi, hg, rfl⟩ := hrel
   have HG := Lib.hid hg
   clear hg
   have hz : ¬ 9223372036854775807 < (bangs i).size + 1 := by rw [bangs_size]; omega
   by_cases hlt : i < k
   · go_wp2_with fail
     go_roundg (k - (i + 1))
     case measure => have := HG.out; omega
     case rel => exact ⟨i + 1, rfl, by simp, by omega, rfl, rfl⟩
   · obtain rfl : i = k := by omega
     have hz2 : ¬ 9223372036854775807 < (bangs i).size + 2 := by rw [bangs_size]; omega
     go_wp2_with fail
     subst hY
     refine wpB_tape ?_
     refine wpB_seq_lone hP fun T d => ?_
     simp only [ns4, ns3, ns2, ns1, ns0, seqL, seqR, regOps, Tryz.f8, Option.getD_some]
     go_wp2_with fail
     exact HQ.out i hk0 _ _ _ _ _ _ _ _ _ _ _ _ _ _ _ _ _ _ _ _ _ _ _ _ _ _ _ _ _ _ _ _ _ _ _ _ _ _ _ _ _ _ _ _ _ _ _ _ _ _ _ _ _ _ _ _ _ _ _ _ _ _ _ _ _ _ _ _ _ _ _ _ _ _ _ _ _ _ _ _ _ _ _ _ _ _ _ _ _ _ _ _ _ _ _ _ _ _ _ _ _ _ _ _ _ _ _ _ _ _ _ _ _ _ _ _ _ _ _ _ _ _ _ _ _ _ _ _ _ _
end Go.Proofs.YtonmcakdofbjiaaGreatDoor
namespace Go.Proofs.YtonmcakdofbjiaaGreatDoor
open Go.ChangeShapes Go.WideShapes Go.ChangeAt Go.RowKit Go.Conc
theorem nests_lifted (os : Os) (started : os.Started) (H : Type) (enc : TypeId × Value -> H) :
   ReturnsInLeavingWide {} Tryz.checked os 8 .any (fun w args => (Rows.parseNestsSpec.pre enc Tryz.prog Tryz.f8 Rows.parseNestsRow.domain false w args /\ laidMetH Tryz.prog Rows.parseNestsRow.laid w) /\ sizedMet enc Tryz.prog Tryz.f8 (OpenSpec.ofChange Rows.parseNestsSpec) false w args)
     (Rows.parseNestsSpec.post enc Tryz.prog Tryz.f8 false true false false) := by
 refine returnsInLeavingWide_of_change_and (C := Tryz.checked) (X := fun w _ => laidMetH Tryz.prog Rows.parseNestsRow.laid w) (fun _ _ _ hh h => h.of_heap hh) own0 started Tryz.func8
   (ChangeSpec.witness_shaped (enc := enc) (C := Tryz.checked) (os := os) (X := fun w _ => laidMetH Tryz.prog Rows.parseNestsRow.laid w) false (lawWorld os) #[.int .i64 0] 8 (lawWorld_os _)
     (World.shaped_of_ZipB (by kernel_rfl) (by kernel_rfl)) (by kernel_rfl) (by kernel_rfl) (by kernel_rfl) (lawWorld_met os _)) ?_
 intro W base args ds gs before hval0 hW _ hsz0 hL _
 have hval : ∀ (j : Nat) t v, Tryz.f8.params[j]? = some t -> args[j]? = some v -> Value.okWide Tryz.prog W .any base t v := hval0
 have hW' := hW
 obtain ⟨p, q, hA0, hV, rfl, _, _⟩ := hW
 have hA : DataW.TrodAll enc Tryz.prog W 0 (fun _ => true) true Tryz.f8.params.toList args.toList ds p := hA0
 rw [Tryz.params8] at hA hval
 obtain ⟨v0, d0, rfl, rfl, h0⟩ := trodAll_one hA
 obtain ⟨rfl, rfl⟩ := trodVars_none hV
 obtain ⟨n, rfl, rfl, rfl, hwn⟩ := open_int Tryz.underlying3 (hval 0 3 v0 rfl rfl) h0
 simp only [List.append_nil] at hW'
 obtain ⟨l1, l2, ⟨b, hr⟩, hT⟩ := laid_varsH hL
 have hsize : Tryz.prog.globals.size <= W.heap.size := by
   obtain ⟨_, _, _, _, h9⟩ := l2 9 (.inr rfl)
   have hlt : 9 < W.heap.size := (Array.getElem?_eq_some_iff.1 h9).1
   have e : Tryz.prog.globals.size = 10 := by kernel_rfl
   omega
 have hcall := nests_any Tryz.tame W ⟨l1, l2, hsize⟩ b hr hT n
 have hcall2 : Bsd.CallsB Tryz.prog 8 #[.int .i64 n] W (fun | .returned v, w' => v = .bool true /\ Kin W w' | _, _ => False) := hcall.mono fun e w' h => by
   cases e with
   | returned v => exact h
   | panicked c => exact h
   | outgrown => exact h
 obtain ⟨M, last, o, w', t', r1, r2, r3, r4⟩ := Bsd.callsB_run Tryz.tame Tryz.func8 (Post := fun v w' => v = .bool true /\ Kin W w') rfl (by kernel_rfl) rfl (fun v w T d h => ⟨h.1, h.2.trans (kin_re w T d)⟩) hcall2
 refine ⟨M, last, o, w', t', r1, r2, r3, r4.mono fun v hF => ?_⟩
 obtain ⟨rfl, hk⟩ := hF
 exact ⟨_, _, _, [], [], [], hW', trodAll_mk1 (shut_bool Tryz.underlying4 true), trodAll_mk1 (shut_int Tryz.underlying3 hwn), rfl, kept_of_kin hk _, fun h => by cases h⟩
theorem nests_row : Rows.ParseNestsSaid :=
 OpenClaim.holds_of_wide_leaving 8 Tryz.f8 rfl rfl rfl rfl rfl rfl rfl ⟨rfl, rfl, rfl, rfl, rfl⟩ rfl rfl rfl rfl rfl (by kernel_rfl) Tryz.func8 (by kernel_rfl)
   (of_decide_eq_true (by kernel_rfl)) (by unfold Func.isWrapper; first | (rw [if_pos (by decide +kernel)]; kernel_rfl) | (rw [if_neg (by decide +kernel)]; exact ⟨rfl, rfl⟩))
   (fun os started H enc _ => nests_lifted os started H enc)
theorem nests_card : Rows.ParseNestsCardSaid :=
 holds_tied_goes .later [.data, .data, .data, .handle, .sentinel, .sentinel, .sentinel] true (true, "074e5f031ab4408176da533a2cefdc3afa561c3d929ccf1498e46e2ed11c108f") true
   nests_row (by kernel_rfl) parseNests_row_tie rfl ⟨rfl, rfl⟩ (by kernel_rfl) rfl
   (fun f fn hf hfn => by
     obtain rfl : f = 8 := Option.some.inj ((show Tryz.prog.funcNamed "winnow/winnowlaw03.ParseNests" = some 8 by kernel_rfl).symm.trans hf) |>.symm
     obtain rfl : fn = Tryz.f8 := (Option.some.inj (Tryz.func8.symm.trans hfn)).symm
     exact ⟨by kernel_rfl, fun j t ht => by
       rw [Tryz.params8] at ht
       have hm : t ∈ [3] := by simpa using Array.mem_of_getElem? ht
       have hall : ([3].all fun u => !Tryz.prog.wantsStandIn u) = true := by kernel_rfl
       exact (show Tryz.prog.wantsStandIn t = false by simpa using List.all_eq_true.1 hall t hm)⟩)
   (by kernel_rfl)
end Go.Proofs.YtonmcakdofbjiaaGreatDoor
