/-
  The parts: base Shp8 base Shp9 base Shp10
-/
import Derived.Test.YtonmcakdofbjiaaDoorV25
import Derived.BigRegion
set_option linter.unusedVariables false
set_option linter.unusedSimpArgs false
set_option linter.unusedSectionVars false
set_option linter.unnecessarySimpa false
set_option maxRecDepth 100000
set_option maxHeartbeats 8000000
namespace Go.Proofs.YtonmcakdofbjiaaDoor
open Go.RowKit
theorem stand_app {B r gb N m : Nat} {o o2 : List Hold} {heads h' : Bool} {depth kind : Int} {name : ByteArray} {num op at_ : Int} {w wx : World} (a : Act) (hE : Ev [] 223 a [(0, .pointer (some ⟨r, 0, none⟩)), (3, .pointer (some ⟨N, 0, none⟩))]) (hM : ShM wx B r gb o2 h') (cN0 : wx.cell? ⟨N, 0, none⟩ = some (.int .i64 depth)) (cN1 : wx.cell? ⟨N, 1, none⟩ = some (.int .i64 kind)) (hNr : N ≠ r) (hNg : N ≠ gb) (hl : o2.length = m) (hm : m <= 24)
   (hst : standF o heads ⟨depth, kind, name, num, op, at_⟩ = some (o2 ++ [⟨kind, depth, wantedOf kind, 0⟩], h')) (ha : Ap r gb w wx) :
   stApp.wp Tryd.prog (bodyPost Tryd.prog Tryd.f12 (StandPost w B r gb o heads ⟨depth, kind, name, num, op, at_⟩)) a wx := by
 rw [stApp_is]
 refine wp_seq (app_region (D := []) ?_ ?_ hm hl hNr hNg hM ⟨cN0, cN1⟩ a hE)
 · rintro ⟨t', d'⟩ w' hsz hdf hM' hA'
   obtain rfl : d' = [] := hdf
   obtain ⟨a', ha'⟩ : ∃ a' : Act, a' = ⟨t', []⟩ := ⟨_, rfl⟩
   have hsz : a'.tmps.size = 223 := by rw [ha']; exact hsz
   have hdf : a'.defers = [] := by rw [ha']
   rw [<- ha']
   show (seqR stApp).wp Tryd.prog (bodyPost Tryd.prog Tryd.f12 (StandPost w B r gb o heads ⟨depth, kind, name, num, op, at_⟩)) a' w'
   have hfin : bodyPost Tryd.prog Tryd.f12 (StandPost w B r gb o heads ⟨depth, kind, name, num, op, at_⟩) .ret (a'.put (some 4) (.bool true)) w' := by
     refine ⟨hdf, .bool true, ?_, ha.trans hA', ?_⟩
     · have : (a'.put (some 4) (.bool true)).tmps.getD 4 undef = .bool true := by
         show (a'.tmps.setIfInBounds 4 (.bool true)).getD 4 undef = _
         simp [Array.getD_eq_getD_getElem?, Array.getElem?_setIfInBounds, hsz]
       generalize (a'.put (some 4) (.bool true)).tmps = t at this ⊢
       have hr : Tryd.f12.results = #[.tmp 4] := rfl
       rw [Array.getD_eq_getD_getElem?] at this
       simp [results, hr, this]
     · rw [hst]
       exact ⟨rfl, hM'⟩
   generalize bodyPost Tryd.prog Tryd.f12 (StandPost w B r gb o heads ⟨depth, kind, name, num, op, at_⟩) = Q at hfin ⊢
   subst ha'
   have HF := Lib.hid hfin
   clear hfin hdf
   simp only [stApp, stPop, stTail, st0, seqR, Tryd.f12, Option.getD_some]
   go_wp2
   exact HF.out
 · intro d v c a w h
   refine ⟨?_, h.2⟩
   have h1 := h.1
   cases d <;> exact h1
theorem stand_pop {B r gb N : Nat} {o o1 : List Hold} {heads h' : Bool} {depth kind : Int} {name : ByteArray} {num op at_ : Int} {w wx : World} (hM : ShM wx B r gb o1 h') (cN0 : wx.cell? ⟨N, 0, none⟩ = some (.int .i64 depth)) (cN1 : wx.cell? ⟨N, 1, none⟩ = some (.int .i64 kind)) (hNr : N ≠ r) (hNg : N ≠ gb) (hd : ∀ (j : Nat) (x : Hold), o1[j]? = some x -> x.depth = j + 1) (ho : o1.length <= 24)
   (hst : standF o heads ⟨depth, kind, name, num, op, at_⟩ = some (popF depth o1 ++ [⟨kind, depth, wantedOf kind, 0⟩], h')) (ha : Ap r gb w wx) (u1 u2 u5 u6 u7 u8 u9 u10 u11 u12 u13 u14 u15 u16 u17 u18 u19 u20 u21 u22 u23 u24 u25 u26 u27 u28 u29 u30 u31 u32 u33 u34 u35 u36 u37 u38 u39 u40 u41 u42 u43 u44 u45 u46 u47 u48 u49 u50 u51 u52 u53 u54 u55 u56 u57 u58 u59 u60 u61 u62 u63 u64 u65 u66 u67 u68 u69 u70 u71 u72 u73 u74 u75 u76 u77 u78 u79 u80 u81 u82 u83 u84 u85 u86 u87 u88 u89 u90 u91 u92 u93 u94 u95 u96 u97 u98 u99 u100 u101 u102 u103 u104 u105 u106 u107 u108 u109 u110 u111 u112 u113 u114 u115 u116 u117 u118 u119 u120 u121 u122 u123 u124 u125 u126 u127 u128 u129 u130 u131 u132 u133 u134 u135 u136 u137 u138 u139 u140 u141 u142 u143 u144 u145 u146 u147 u148 u149 u150 u151 u152 u153 u154 u155 u156 u157 u158 u159 u160 u161 u162 u163 u164 u165 u166 u167 u168 u169 u170 u171 u172 u173 u174 u175 u176 u177 u178 u179 u180 u181 u182 u183 u184 u185 u186 u187 u188 u189 u190 u191 u192 u193 u194 u195 u196 u197 u198 u199 u200 u201 u202 u203 u204 u205 u206 u207 u208 u209 u210 u211 u212 u213 u214 u215 u216 u217 u218 u219 u220 u221 u222 : Value) :
   stPop.wp Tryd.prog (bodyPost Tryd.prog Tryd.f12 (StandPost w B r gb o heads ⟨depth, kind, name, num, op, at_⟩)) ⟨(.pointer (some ⟨r, 0, none⟩) :: u1 :: u2 :: .pointer (some ⟨N, 0, none⟩) :: .bool false :: u5 :: u6 :: u7 :: u8 :: u9 :: u10 :: u11 :: u12 :: u13 :: u14 :: u15 :: u16 :: u17 :: u18 :: u19 :: u20 :: u21 :: u22 :: u23 :: u24 :: u25 :: u26 :: u27 :: u28 :: u29 :: u30 :: u31 :: u32 :: u33 :: u34 :: u35 :: u36 :: u37 :: u38 :: u39 :: u40 :: u41 :: u42 :: u43 :: u44 :: u45 :: u46 :: u47 :: u48 :: u49 :: u50 :: u51 :: u52 :: u53 :: u54 :: u55 :: u56 :: u57 :: u58 :: u59 :: u60 :: u61 :: u62 :: u63 :: u64 :: u65 :: u66 :: u67 :: u68 :: u69 :: u70 :: u71 :: u72 :: u73 :: u74 :: u75 :: u76 :: u77 :: u78 :: u79 :: u80 :: u81 :: u82 :: u83 :: u84 :: u85 :: u86 :: u87 :: u88 :: u89 :: u90 :: u91 :: u92 :: u93 :: u94 :: u95 :: u96 :: u97 :: u98 :: u99 :: u100 :: u101 :: u102 :: u103 :: u104 :: u105 :: u106 :: u107 :: u108 :: u109 :: u110 :: u111 :: u112 :: u113 :: u114 :: u115 :: u116 :: u117 :: u118 :: u119 :: u120 :: u121 :: u122 :: u123 :: u124 :: u125 :: u126 :: u127 :: u128 :: u129 :: u130 :: u131 :: u132 :: u133 :: u134 :: u135 :: u136 :: u137 :: u138 :: u139 :: u140 :: u141 :: u142 :: u143 :: u144 :: u145 :: u146 :: u147 :: u148 :: u149 :: u150 :: u151 :: u152 :: u153 :: u154 :: u155 :: u156 :: u157 :: u158 :: u159 :: u160 :: u161 :: u162 :: u163 :: u164 :: u165 :: u166 :: u167 :: u168 :: u169 :: u170 :: u171 :: u172 :: u173 :: u174 :: u175 :: u176 :: u177 :: u178 :: u179 :: u180 :: u181 :: u182 :: u183 :: u184 :: u185 :: u186 :: u187 :: u188 :: u189 :: u190 :: u191 :: u192 :: u193 :: u194 :: u195 :: u196 :: u197 :: u198 :: u199 :: u200 :: u201 :: u202 :: u203 :: u204 :: u205 :: u206 :: u207 :: u208 :: u209 :: u210 :: u211 :: u212 :: u213 :: u214 :: u215 :: u216 :: u217 :: u218 :: u219 :: u220 :: u221 :: u222 :: []).toArray, []⟩ wx := by
 have HM := Lib.hid hM
 have HD := Lib.hid hd
 have HA := Lib.hid ha
 have HS := Lib.hid hst
 have hng := hM.ne
 have hNl := World.block_lt_of_cell? wx ⟨N, 0, none⟩ cN0
 clear hM hd ha hst
 generalize hQ : bodyPost Tryd.prog Tryd.f12 (StandPost w B r gb o heads ⟨depth, kind, name, num, op, at_⟩) = Q
 have HQ := Lib.hid hQ
 clear hQ
 rw [stPop_is]
 refine wp_seq ?_
 generalize hY : stApp.wp Tryd.prog Q = Y
 have HY := Lib.hid hY
 clear hY
 simp only [stPop, stTail, st0, seqL, seqR, Tryd.f12, Option.getD_some]
 go_wp2_with fail
 go_loopg [168] o1.length (fun g x4 wq => ∃ m : Nat, m <= o1.length /\ g = m /\ ShM wq B r gb (o1.take m) h' /\ Ap r gb wx wq /\ ∀ (j : Nat) (x : Hold), m <= j -> o1[j]? = some x -> depth <= x.depth)
 case atStart =>
   refine ⟨o1.length, Nat.le_refl _, rfl, by rw [List.take_length]; exact HM.out, Ap.refl _, fun j x hj hx => ?_⟩
   have := (List.getElem?_eq_some_iff.1 hx).1
   omega
 case round =>
   obtain ⟨m, hm, hg, hMq, hAq, hbe⟩ := hrel
   have hlen : (o1.take m).length = m := by simp; omega
   have c0 := hMq.c0
   rw [hlen] at c0
   have dN0 := (hAq.cell hNl hNr hNg).trans cN0
   have dN1 := (hAq.cell hNl hNr hNg).trans cN1
   have HMQ := Lib.hid hMq
   have HAQ := Lib.hid hAq
   have HBE := Lib.hid hbe
   have HG := Lib.hid hg
   clear hMq hAq hbe hg
   cases m with
   | zero =>
     clear hlen
     go_wp2_with fail
     go_quiet (fail)
     go_wp2_with fail
     have hps : popF depth o1 = o1.take 0 := pop_take (Nat.zero_le _) HBE.out (.inl rfl)
     rw [<- HY.out, <- HQ.out]
     exact stand_app (m := 0) _ ⟨rfl, rfl, by simp [Act.eval]⟩ (HMQ.out.drewN nq) dN0 dN1 hNr hNg (by simp) (by omega) (by rw [<- hps]; exact HS.out) (HA.out.trans (HAQ.out.drewN nq))
   | succ i =>
     clear hlen
     have hil : i < o1.length := by omega
     obtain ⟨x, hx⟩ : ∃ x, o1[i]? = some x := ⟨_, List.getElem?_eq_getElem hil⟩
     have hxt : (o1.take (i + 1))[i]? = some x := by rw [List.getElem?_take, if_pos (by omega)]; exact hx
     have q1 := HMQ.out.depth hxt
     have f0 := HMQ.out.fs 0
     have hxd := HD.out i x hx
     have hp1 : (0 : Int) < ((i + 1 : Nat) : Int) := by omega
     have hp2 : (0 : Int) <= (i : Int) := by omega
     have hp3 : (i : Int) < ((i + 1 : Nat) : Int) := by omega
     rw [hxd] at q1
     have HX := Lib.hid hx
     have HXD := Lib.hid hxd
     clear hx hxt hxd
     by_cases hdx : depth <= (i : Int) + 1
     · have hdd : decide (depth <= (i : Int) + 1) = true := by simp [hdx]
       have HDX := Lib.hid hdx
       clear hdx
       go_wp2_with fail
       go_quiet (fail)
       go_wp2_with fail
       have gW : wr.drewN nq = wr.drewN nq := rfl
       have HMW := Lib.hid (HMQ.out.drewN nq)
       have HAW := Lib.hid (HAQ.out.drewN nq)
       have cW0 : (wr.drewN nq).cell? ⟨r, 0, none⟩ = some (.slice (some ⟨gb, 0, none⟩) (i + 1) 26) := c0
       have fW0 : (wr.drewN nq).frozen? ⟨r, 0, none⟩ = false := f0
       clear gW c0 f0 q1 dN0 dN1 HMQ HAQ
       generalize wr.drewN nq = W at HMW HAW cW0 fW0 ⊢
       go_region
       go_wp2_with fail
       go_roundg i
       case measure => have := HG.out; omega
       case rel =>
         have hlm : (o1.take (i + 1)).length = i + 1 := by simp; omega
         have h1 := HMW.out.trunc (m := i) (by omega)
         rw [List.take_take, show min i (i + 1) = i from by omega] at h1
         refine ⟨i, by omega, rfl, h1.kept fun _ _ => rfl, ((HAW.out.set (a := ⟨r, 0, none⟩) (.inl rfl) _).drewN 1), fun j y hj hy => ?_⟩
         by_cases e : j = i
         · subst e
           rw [HX.out] at hy
           cases hy
           have h3 := HDX.out
           have h4 := HXD.out
           omega
         · exact HBE.out j y (by omega) hy
     · have hdd : decide (depth <= (i : Int) + 1) = false := by simp [hdx]
       have HDX := Lib.hid hdx
       clear hdx
       go_wp2_with fail
       go_quiet (fail)
       go_wp2_with fail
       have hps : popF depth o1 = o1.take (i + 1) := pop_take hm HBE.out (.inr ⟨x, by simpa using HX.out, by have := HDX.out; have := HXD.out; omega⟩)
       rw [<- HY.out, <- HQ.out]
       exact stand_app (m := i + 1) _ ⟨rfl, rfl, by simp [Act.eval]⟩ (HMQ.out.drewN nq) dN0 dN1 hNr hNg (by simp; omega) (by omega) (by rw [<- hps]; exact HS.out) (HA.out.trans (HAQ.out.drewN nq))
theorem stand_tail {B r gb N : Nat} {o o1 : List Hold} {heads : Bool} {depth kind : Int} {name : ByteArray} {num op at_ : Int} {w wx : World} (hM : ShM wx B r gb o1 heads) (cN0 : wx.cell? ⟨N, 0, none⟩ = some (.int .i64 depth)) (cN1 : wx.cell? ⟨N, 1, none⟩ = some (.int .i64 kind)) (hNr : N ≠ r) (hNg : N ≠ gb) (hd : ∀ (j : Nat) (x : Hold), o1[j]? = some x -> x.depth = j + 1) (ho : o1.length <= 24)
   (ht : takeF o heads ⟨depth, kind, name, num, op, at_⟩ = some o1) (hf : fieldsB ⟨depth, kind, name, num, op, at_⟩ = true) (ha : Ap r gb w wx) (u1 u2 u5 u6 u7 u8 u9 u10 u11 u12 u13 u14 u15 u16 u17 u18 u19 u20 u21 u22 u23 u24 u25 u26 u27 u28 u29 u30 u31 u32 u33 u34 u35 u36 u37 u38 u39 u40 u41 u42 u43 u44 u45 u46 u47 u48 u49 u50 u51 u52 u53 u54 u55 u56 u57 u58 u59 u60 u61 u62 u63 u64 u65 u66 u67 u68 u69 u70 u71 u72 u73 u74 u75 u76 u77 u78 u79 u80 u81 u82 u83 u84 u85 u86 u87 u88 u89 u90 u91 u92 u93 u94 u95 u96 u97 u98 u99 u100 u101 u102 u103 u104 u105 u106 u107 u108 u109 u110 u111 u112 u113 u114 u115 u116 u117 u118 u119 u120 u121 u122 u123 u124 u125 u126 u127 u128 u129 u130 u131 u132 u133 u134 u135 u136 u137 u138 u139 u140 u141 u142 u143 u144 u145 u146 u147 u148 u149 u150 u151 u152 u153 u154 u155 u156 u157 u158 u159 u160 u161 u162 u163 u164 u165 u166 u167 u168 u169 u170 u171 u172 u173 u174 u175 u176 u177 u178 u179 u180 u181 u182 u183 u184 u185 u186 u187 u188 u189 u190 u191 u192 u193 u194 u195 u196 u197 u198 u199 u200 u201 u202 u203 u204 u205 u206 u207 u208 u209 u210 u211 u212 u213 u214 u215 u216 u217 u218 u219 u220 u221 u222 : Value) :
   stTail.wp Tryd.prog (bodyPost Tryd.prog Tryd.f12 (StandPost w B r gb o heads ⟨depth, kind, name, num, op, at_⟩)) ⟨(.pointer (some ⟨r, 0, none⟩) :: u1 :: u2 :: .pointer (some ⟨N, 0, none⟩) :: .bool false :: u5 :: u6 :: u7 :: u8 :: u9 :: u10 :: u11 :: u12 :: u13 :: u14 :: u15 :: u16 :: u17 :: u18 :: u19 :: u20 :: u21 :: u22 :: u23 :: u24 :: u25 :: u26 :: u27 :: u28 :: u29 :: u30 :: u31 :: u32 :: u33 :: u34 :: u35 :: u36 :: u37 :: u38 :: u39 :: u40 :: u41 :: u42 :: u43 :: u44 :: u45 :: u46 :: u47 :: u48 :: u49 :: u50 :: u51 :: u52 :: u53 :: u54 :: u55 :: u56 :: u57 :: u58 :: u59 :: u60 :: u61 :: u62 :: u63 :: u64 :: u65 :: u66 :: u67 :: u68 :: u69 :: u70 :: u71 :: u72 :: u73 :: u74 :: u75 :: u76 :: u77 :: u78 :: u79 :: u80 :: u81 :: u82 :: u83 :: u84 :: u85 :: u86 :: u87 :: u88 :: u89 :: u90 :: u91 :: u92 :: u93 :: u94 :: u95 :: u96 :: u97 :: u98 :: u99 :: u100 :: u101 :: u102 :: u103 :: u104 :: u105 :: u106 :: u107 :: u108 :: u109 :: u110 :: u111 :: u112 :: u113 :: u114 :: u115 :: u116 :: u117 :: u118 :: u119 :: u120 :: u121 :: u122 :: u123 :: u124 :: u125 :: u126 :: u127 :: u128 :: u129 :: u130 :: u131 :: u132 :: u133 :: u134 :: u135 :: u136 :: u137 :: u138 :: u139 :: u140 :: u141 :: u142 :: u143 :: u144 :: u145 :: u146 :: u147 :: u148 :: u149 :: u150 :: u151 :: u152 :: u153 :: u154 :: u155 :: u156 :: u157 :: u158 :: u159 :: u160 :: u161 :: u162 :: u163 :: u164 :: u165 :: u166 :: u167 :: u168 :: u169 :: u170 :: u171 :: u172 :: u173 :: u174 :: u175 :: u176 :: u177 :: u178 :: u179 :: u180 :: u181 :: u182 :: u183 :: u184 :: u185 :: u186 :: u187 :: u188 :: u189 :: u190 :: u191 :: u192 :: u193 :: u194 :: u195 :: u196 :: u197 :: u198 :: u199 :: u200 :: u201 :: u202 :: u203 :: u204 :: u205 :: u206 :: u207 :: u208 :: u209 :: u210 :: u211 :: u212 :: u213 :: u214 :: u215 :: u216 :: u217 :: u218 :: u219 :: u220 :: u221 :: u222 :: []).toArray, []⟩ wx := by
 have HM := Lib.hid hM
 have HD := Lib.hid hd
 have HA := Lib.hid ha
 have hst : standF o heads ⟨depth, kind, name, num, op, at_⟩ = some (popF depth o1 ++ [⟨kind, depth, wantedOf kind, 0⟩], if kind = 0 \/ kind = 1 then heads else false) := by
   unfold standF
   rw [if_neg (by simp [hf]), ht]
 have cs1 := hM.c1
 have fs1 := hM.fs 1
 clear hM hd ha ht hf
 generalize hQ : bodyPost Tryd.prog Tryd.f12 (StandPost w B r gb o heads ⟨depth, kind, name, num, op, at_⟩) = Q
 have HQ := Lib.hid hQ
 clear hQ
 rw [stTail_is]
 refine wp_seq ?_
 generalize hY : stPop.wp Tryd.prog Q = Y
 have HY := Lib.hid hY
 clear hY
 simp only [stTail, st0, seqL, seqR, Tryd.f12, Option.getD_some]
 by_cases k0 : kind = 0
 · subst k0
   rw [if_pos (.inl rfl)] at hst
   have HS := Lib.hid hst
   clear hst
   go_wp2_with fail
   rw [<- HY.out, <- HQ.out]
   exact stand_pop HM.out cN0 cN1 hNr hNg HD.out ho HS.out HA.out _ _ _ _ _ _ _ _ _ _ _ _ _ _ _ _ _ _ _ _ _ _ _ _ _ _ _ _ _ _ _ _ _ _ _ _ _ _ _ _ _ _ _ _ _ _ _ _ _ _ _ _ _ _ _ _ _ _ _ _ _ _ _ _ _ _ _ _ _ _ _ _ _ _ _ _ _ _ _ _ _ _ _ _ _ _ _ _ _ _ _ _ _ _ _ _ _ _ _ _ _ _ _ _ _ _ _ _ _ _ _ _ _ _ _ _ _ _ _ _ _ _ _ _ _ _ _ _ _ _ _ _ _ _ _ _ _ _ _ _ _ _ _ _ _ _ _ _ _ _ _ _ _ _ _ _ _ _ _ _ _ _ _ _ _ _ _ _ _ _ _ _ _ _ _ _ _ _ _ _ _ _ _ _ _ _ _ _ _ _ _ _ _ _ _ _ _ _ _ _ _ _ _ _ _ _ _ _ _ _ _ _ _ _ _ _ _ _ _ _
 · have k0b : (kind == 0) = false := by simp [k0]
   have k0c : (kind != 0) = true := by simp [k0]
   by_cases k1 : kind = 1
   · subst k1
     rw [if_pos (.inr rfl)] at hst
     have HS := Lib.hid hst
     clear hst
     go_wp2_with fail
     rw [<- HY.out, <- HQ.out]
     exact stand_pop HM.out cN0 cN1 hNr hNg HD.out ho HS.out HA.out _ _ _ _ _ _ _ _ _ _ _ _ _ _ _ _ _ _ _ _ _ _ _ _ _ _ _ _ _ _ _ _ _ _ _ _ _ _ _ _ _ _ _ _ _ _ _ _ _ _ _ _ _ _ _ _ _ _ _ _ _ _ _ _ _ _ _ _ _ _ _ _ _ _ _ _ _ _ _ _ _ _ _ _ _ _ _ _ _ _ _ _ _ _ _ _ _ _ _ _ _ _ _ _ _ _ _ _ _ _ _ _ _ _ _ _ _ _ _ _ _ _ _ _ _ _ _ _ _ _ _ _ _ _ _ _ _ _ _ _ _ _ _ _ _ _ _ _ _ _ _ _ _ _ _ _ _ _ _ _ _ _ _ _ _ _ _ _ _ _ _ _ _ _ _ _ _ _ _ _ _ _ _ _ _ _ _ _ _ _ _ _ _ _ _ _ _ _ _ _ _ _ _ _ _ _ _ _ _ _ _ _ _ _ _ _ _ _ _ _
   · have k1b : (kind == 1) = false := by simp [k1]
     have k1c : (kind != 1) = true := by simp [k1]
     rw [if_neg (by omega)] at hst
     have HS := Lib.hid hst
     clear hst k0 k1
     go_wp2_with fail
     rw [<- HY.out, <- HQ.out]
     have c0' : (wx.setCell ⟨r, 1, none⟩ (.bool false)).cell? ⟨N, 0, none⟩ = some (.int .i64 depth) := by simp [go_sem, cN0, hNr]
     have c1' : (wx.setCell ⟨r, 1, none⟩ (.bool false)).cell? ⟨N, 1, none⟩ = some (.int .i64 kind) := by simp [go_sem, cN1, hNr]
     exact stand_pop (HM.out.setHeads false) c0' c1' hNr hNg HD.out ho HS.out (HA.out.set (a := ⟨r, 1, none⟩) (.inl rfl) _) _ _ _ _ _ _ _ _ _ _ _ _ _ _ _ _ _ _ _ _ _ _ _ _ _ _ _ _ _ _ _ _ _ _ _ _ _ _ _ _ _ _ _ _ _ _ _ _ _ _ _ _ _ _ _ _ _ _ _ _ _ _ _ _ _ _ _ _ _ _ _ _ _ _ _ _ _ _ _ _ _ _ _ _ _ _ _ _ _ _ _ _ _ _ _ _ _ _ _ _ _ _ _ _ _ _ _ _ _ _ _ _ _ _ _ _ _ _ _ _ _ _ _ _ _ _ _ _ _ _ _ _ _ _ _ _ _ _ _ _ _ _ _ _ _ _ _ _ _ _ _ _ _ _ _ _ _ _ _ _ _ _ _ _ _ _ _ _ _ _ _ _ _ _ _ _ _ _ _ _ _ _ _ _ _ _ _ _ _ _ _ _ _ _ _ _ _ _ _ _ _ _ _ _ _ _ _ _ _ _ _ _ _ _ _ _ _ _ _ _
end Go.Proofs.YtonmcakdofbjiaaDoor
namespace Go.Proofs.YtonmcakdofbjiaaDoor
open Go.RowKit
theorem stand_refuse {w w' : World} {B r gb : Nat} {o : List Hold} {heads : Bool} {n : Nd} (hn : takeF o heads n = none) (ha : Ap r gb w w') : StandPost w B r gb o heads n (.returned (.bool false)) w' := by
 refine ⟨ha, ?_⟩
 have : standF o heads n = none := by
   unfold standF
   split
   · rfl
   · rw [hn]
 rw [this]
theorem set_depth {o : List Hold} (hd : ∀ (j : Nat) (x : Hold), o[j]? = some x -> x.depth = j + 1) {u : Nat} {g g' : Hold} (hg : o[u]? = some g) (he : g'.depth = g.depth) : ∀ (j : Nat) (x : Hold), (o.set u g')[j]? = some x -> x.depth = j + 1 := by
 intro j x hx
 rw [List.getElem?_set] at hx
 split at hx
 · rename_i e
   split at hx
   · cases hx; subst e; rw [he]; exact hd u g hg
   · cases hx
 · exact hd j x hx
theorem res51 (t : Array Value) (b : Bool) (h : t.getD 4 undef = .bool b) (w : World) : (results Tryd.f12 t).run Tryd.prog w = .ok (.bool b) w := by
 have hr : Tryd.f12.results = #[.tmp 4] := rfl
 rw [Array.getD_eq_getD_getElem?] at h
 simp [results, hr, h]
noncomputable def st3 : Code := seqL (seqR (seqR st0))
theorem st0_is : st0 = .seq (seqL st0) (.seq (seqL (seqR st0)) (.seq st3 stTail)) := rfl
def F3 (r N : Nat) (depth kind : Int) (name : ByteArray) (num op at_ : Int) : Act := ⟨((.pointer (some ⟨r, 0, none⟩)) :: (.agg #[.int .i64 depth, .int .i64 kind, .string name, .int .i64 num, .int .i64 op, .int .i64 at_]) :: undef :: (.pointer (some ⟨N, 0, none⟩)) :: (.bool false) :: undef :: undef :: undef :: undef :: (.agg #[.int .i64 depth, .int .i64 kind, .string name, .int .i64 num, .int .i64 op, .int .i64 at_]) :: (.bool true) :: (.bool false) :: undef :: undef :: undef :: undef :: undef :: undef :: undef :: undef :: undef :: undef :: undef :: undef :: undef :: undef :: undef :: undef :: undef :: undef :: undef :: undef :: undef :: undef :: undef :: undef :: undef :: undef :: undef :: undef :: undef :: undef :: undef :: undef :: undef :: undef :: undef :: undef :: undef :: undef :: undef :: undef :: undef :: undef :: undef :: undef :: undef :: undef :: undef :: undef :: undef :: undef :: undef :: undef :: undef :: undef :: undef :: undef :: undef :: undef :: undef :: undef :: undef :: undef :: undef :: undef :: undef :: undef :: undef :: undef :: undef :: undef :: undef :: undef :: undef :: undef :: undef :: undef :: undef :: undef :: undef :: undef :: undef :: undef :: undef :: undef :: undef :: undef :: undef :: undef :: undef :: undef :: undef :: undef :: undef :: undef :: undef :: undef :: undef :: undef :: undef :: undef :: undef :: undef :: undef :: undef :: undef :: undef :: undef :: undef :: undef :: undef :: undef :: undef :: undef :: undef :: undef :: undef :: undef :: undef :: undef :: undef :: undef :: undef :: undef :: undef :: undef :: undef :: undef :: undef :: undef :: undef :: undef :: undef :: undef :: undef :: undef :: undef :: undef :: undef :: undef :: undef :: undef :: undef :: undef :: undef :: undef :: undef :: undef :: undef :: undef :: undef :: undef :: undef :: undef :: undef :: undef :: undef :: undef :: undef :: undef :: undef :: undef :: undef :: undef :: undef :: undef :: undef :: undef :: undef :: undef :: undef :: undef :: undef :: undef :: undef :: undef :: undef :: undef :: undef :: undef :: undef :: undef :: undef :: undef :: undef :: undef :: undef :: undef :: undef :: undef :: undef :: undef :: undef :: undef :: undef :: undef :: undef :: undef :: undef :: undef :: undef :: undef :: undef :: undef :: undef :: undef :: undef :: undef :: undef :: undef :: undef :: undef :: []).toArray, []⟩
structure Hd (w w2 : World) (B r gb N : Nat) (o : List Hold) (heads : Bool) (depth kind : Int) : Prop where
 ap : Ap r gb w w2
 shm : ShM w2 B r gb o heads
 c0 : w2.cell? ⟨N, 0, none⟩ = some (.int .i64 depth)
 c1 : w2.cell? ⟨N, 1, none⟩ = some (.int .i64 kind)
 nr : N ≠ r
 ng : N ≠ gb
theorem stand_head {B r gb : Nat} {o : List Hold} {heads : Bool} (depth kind : Int) (name : ByteArray) (num op at_ : Int) (hs : name.size <= 140737488355328) (w : World) (h : ShM w B r gb o heads)
   (hk : fieldsB ⟨depth, kind, name, num, op, at_⟩ = true -> ∀ w2 N, Hd w w2 B r gb N o heads depth kind -> st3.wp Tryd.prog (Exit.then (stTail.wp Tryd.prog (bodyPost Tryd.prog Tryd.f12 (StandPost w B r gb o heads ⟨depth, kind, name, num, op, at_⟩))) (bodyPost Tryd.prog Tryd.f12 (StandPost w B r gb o heads ⟨depth, kind, name, num, op, at_⟩))) (F3 r N depth kind name num op at_) w2) :
   Calls Tryd.prog 12 #[.pointer (some ⟨r, 0, none⟩), .agg #[.int .i64 depth, .int .i64 kind, .string name, .int .i64 num, .int .i64 op, .int .i64 at_]] w (StandPost w B r gb o heads ⟨depth, kind, name, num, op, at_⟩) := by
 have HM := Lib.hid h
 have hf := fields_any ⟨depth, kind, name, num, op, at_⟩ hs
 simp only [Nd.cells] at hf
 have hlt := h.s.lt
 have hgt : gb < w.heap.size := by obtain ⟨F, h1, _⟩ := h.row; exact h1.lt
 cases hfb : fieldsB ⟨depth, kind, name, num, op, at_⟩ with
 | false =>
   have hst : standF o heads ⟨depth, kind, name, num, op, at_⟩ = none := by simp [standF, hfb]
   rw [hfb] at hf
   clear hfb h hk hlt hgt
   go_enter Tryd.func12, Tryd.ntmps12
   go_wp2_with (go_at_call 23; refine (hf _).mono ?_; rintro e w1 ⟨rfl, k1⟩)
   go_ret
   exact ⟨(Ap.of_kin ((Kin.refl w).alloc _)).trans (Ap.of_kin k1), by rw [hst]; rfl⟩
 | true =>
   rw [hfb] at hf
   have HK := Lib.hid (hk hfb)
   clear hfb h hk
   go_enter Tryd.func12, Tryd.ntmps12
   generalize hQ : bodyPost Tryd.prog Tryd.f12 (StandPost w B r gb o heads ⟨depth, kind, name, num, op, at_⟩) = Q at HK ⊢
   have HQ := Lib.hid hQ
   clear hQ
   change Code.wp Tryd.prog st0 Q _ _
   rw [st0_is]
   refine wp_seq ?_
   generalize hY : Code.wp Tryd.prog ((seqL (seqR st0)).seq (st3.seq stTail)) Q = Y
   have HY := Lib.hid hY
   clear hY
   simp only [st0, seqL, Tryd.f12, Option.getD_some]
   go_wp2
   rw [<- HY.out]
   refine wp_seq ?_
   have hx : Code.wp Tryd.prog (st3.seq stTail) Q = Code.wp Tryd.prog (st3.seq stTail) Q := rfl
   generalize hZ : Code.wp Tryd.prog (st3.seq stTail) Q = Z
   have HZ := Lib.hid hZ
   clear hZ hx
   simp only [st0, seqL, seqR, Tryd.f12, Option.getD_some]
   have k0 := (Kin.refl w).alloc (Obj.cells #[Value.int IntKind.i64 depth, Value.int IntKind.i64 kind, Value.string name, Value.int IntKind.i64 num, Value.int IntKind.i64 op, Value.int IntKind.i64 at_] 26)
   have hS := six_new w 26 (.int .i64 depth) (.int .i64 kind) (.string name) (.int .i64 num) (.int .i64 op) (.int .i64 at_)
   go_wp2_with (go_at_call 23; refine (hf _).mono ?_; rintro e w1 ⟨rfl, k1⟩)
   rw [<- HZ.out]
   refine wp_seq ?_
   have k2 := k0.trans k1
   exact HK.out w1 w.heap.size ⟨Ap.of_kin k2, HM.out.kin k2, (k1.cell (by simp)).trans hS.c0, (k1.cell (by simp)).trans hS.c1, by omega, by omega⟩
theorem stand_wants {B r gb N : Nat} {o : List Hold} {heads : Bool} {st : List Opn} {begun : Bool} {depth kind : Int} {name : ByteArray} {num op at_ : Int} {w w2 : World} (hI : ShI o heads st begun) (ho : o.length <= 24) (hf : fieldsB ⟨depth, kind, name, num, op, at_⟩ = true) (hH : Hd w w2 B r gb N o heads depth kind) {u : Nat} (hwi : wantIx o = some u) : st3.wp Tryd.prog (Exit.then (stTail.wp Tryd.prog (bodyPost Tryd.prog Tryd.f12 (StandPost w B r gb o heads ⟨depth, kind, name, num, op, at_⟩))) (bodyPost Tryd.prog Tryd.f12 (StandPost w B r gb o heads ⟨depth, kind, name, num, op, at_⟩))) (F3 r N depth kind name num op at_) w2 := by
 have H := Lib.hid hH
 have HI := Lib.hid hI
 have HF := Lib.hid hf
 have cN0 := hH.c0
 have cN1 := hH.c1
 have hNr := hH.nr
 have hNg := hH.ng
 have hng := hH.shm.ne
 have hw52 := wanting_any w2 hH.shm
 clear hH hI hf
 unfold F3
 generalize hQ : bodyPost Tryd.prog Tryd.f12 (StandPost w B r gb o heads ⟨depth, kind, name, num, op, at_⟩) = Q
 have HQ := Lib.hid hQ
 clear hQ
 generalize hY : stTail.wp Tryd.prog Q = Y
 have HY := Lib.hid hY
 clear hY
 obtain ⟨⟨g, hg, hgw⟩, hlater⟩ := lastIx_some hwi
 clear hlater
 rw [hwi] at hw52
 have e1 : ixV (some u) = (u : Int) := rfl
 rw [e1] at hw52
 clear e1
 have c0 := H.out.shm.c0
 have hgd := HI.out.depth u g hg
 have hgs := HI.out.small u g hg
 have hul := (List.getElem?_eq_some_iff.1 hg).1
 have d1 := H.out.shm.depth hg
 have b1 := H.out.shm.blocks hg
 obtain ⟨v, v1, hva⟩ := H.out.shm.wants hg
 have f2 := H.out.shm.fr (u * 4 + 2)
 have f3 := H.out.shm.fr (u * 4 + 3)
 rw [hgd] at d1
 obtain ⟨x, rest, hxr⟩ : ∃ x rest, g.wants = x :: rest := by
   cases hgw2 : g.wants with
   | nil => rw [hgw2] at hgw; cases hgw
   | cons x rest => exact ⟨x, rest, rfl⟩
 rw [hxr] at hva
 obtain ⟨gw, off, cap, rfl, hcap, x1, hwt, hwt2⟩ := hva.tail
 have HWT := Lib.hid hwt
 have HWT2 := Lib.hid hwt2
 have hu0 : (0 : Int) <= u := by omega
 have hr1 : (0 : Int) < ((rest.length + 1 : Nat) : Int) := by omega
 have HTK : Hid (takeF o heads ⟨depth, kind, name, num, op, at_⟩ = if depth ≠ (u : Int) + 1 + 1 \/ (x = 0 /\ isExprB kind = false) \/ (x = 1 /\ kind ≠ 9) then none else some (o.set u { g with wants := rest, blocks := if x = 1 then g.blocks + 1 else g.blocks })) := by
   show _ = _
   unfold takeF
   simp only [hwi, hg, hxr, hgd]
 have HG := Lib.hid hg
 clear hva hwt hwt2 hgw hwi hxr hgd hg
 simp only [st3, st0, seqL, seqR, Tryd.f12, Option.getD_some]
 by_cases hd : depth = (u : Int) + 1 + 1
 · have hd1 : (depth == (u : Int) + 1 + 1) = true := by simp [hd]
   have hd2 : (depth != (u : Int) + 1 + 1) = false := by simp [hd]
   have hdd : ¬ depth ≠ (u : Int) + 1 + 1 := by simp [hd]
   clear hd
   by_cases hx0 : x = 0
   · subst hx0
     cases hke : isExprB kind with
     | false =>
       have hn : takeF o heads ⟨depth, kind, name, num, op, at_⟩ = none := by rw [HTK.out, if_pos (.inr (.inl ⟨rfl, hke⟩))]
       have HN := Lib.hid hn
       clear hn hdd
       go_wp2_with (go_at_call 13; refine hw52.mono ?_; rintro e w3 ⟨rfl, rfl⟩)
       go_quiet ((go_at_call 24; exact Calls.quiet_of_same (isExpr_any _ _)))
       go_wp2
       rw [<- HQ.out]
       exact ⟨rfl, _, res51 _ false rfl _, stand_refuse HN.out (H.out.ap.trans ((Ap.refl _).drewN _))⟩
     | true =>
       have hn : takeF o heads ⟨depth, kind, name, num, op, at_⟩ = some (o.set u { g with wants := rest }) := by
         rw [HTK.out, if_neg (by simp [hke]; omega)]; simp
       have HN := Lib.hid hn
       clear hn hdd
       go_wp2_with (go_at_call 13; refine hw52.mono ?_; rintro e w3 ⟨rfl, rfl⟩)
       go_quiet ((go_at_call 24; exact Calls.quiet_of_same (isExpr_any _ _)))
       go_wp2
       all_goals rw [<- HY.out, <- HQ.out]
       all_goals refine stand_tail ((H.out.shm.drewN nq).setWants (l := rest) HG.out (WantsAt.kept  ?_ fun _ _ _ _ => rfl)) (by simp [go_sem, cN0, hNg]) (by simp [go_sem, cN1, hNg]) H.out.nr H.out.ng (set_depth (g' := { g with wants := rest }) HI.out.depth HG.out rfl) ((by simp; omega)) HN.out HF.out (H.out.ap.trans (((Ap.refl _).drewN nq).set (a := ⟨gb, _, none⟩) (.inr rfl) _)) _ _ _ _ _ _ _ _ _ _ _ _ _ _ _ _ _ _ _ _ _ _ _ _ _ _ _ _ _ _ _ _ _ _ _ _ _ _ _ _ _ _ _ _ _ _ _ _ _ _ _ _ _ _ _ _ _ _ _ _ _ _ _ _ _ _ _ _ _ _ _ _ _ _ _ _ _ _ _ _ _ _ _ _ _ _ _ _ _ _ _ _ _ _ _ _ _ _ _ _ _ _ _ _ _ _ _ _ _ _ _ _ _ _ _ _ _ _ _ _ _ _ _ _ _ _ _ _ _ _ _ _ _ _ _ _ _ _ _ _ _ _ _ _ _ _ _ _ _ _ _ _ _ _ _ _ _ _ _ _ _ _ _ _ _ _ _ _ _ _ _ _ _ _ _ _ _ _ _ _ _ _ _ _ _ _ _ _ _ _ _ _ _ _ _ _ _ _ _ _ _ _ _ _ _ _ _ _ _ _ _ _ _ _ _ _ _ _ _ _
       all_goals first | exact HWT.out | exact HWT2.out (by omega)
   · have hx0b : (x == 0) = false := by simp [hx0]
     by_cases hx1 : x = 1
     · subst hx1
       by_cases hk9 : kind = 9
       · have hk1 : (kind == 9) = true := by simp [hk9]
         have hk2 : (kind != 9) = false := by simp [hk9]
         have hn : takeF o heads ⟨depth, kind, name, num, op, at_⟩ = some ((o.set u { g with wants := rest }).set u { { g with wants := rest } with blocks := g.blocks + 1 }) := by
           rw [HTK.out, if_neg (by simp [hk9]; omega)]; simp
         have HN := Lib.hid hn
         clear hn hdd hx0 hk9
         go_wp2_with (go_at_call 13; refine hw52.mono ?_; rintro e w3 ⟨rfl, rfl⟩)
         go_quiet ((go_at_call 24; exact Calls.quiet_of_same (isExpr_any _ _)))
         go_wp2
         all_goals rw [<- HY.out, <- HQ.out]
         all_goals refine stand_tail (((H.out.shm.drewN nq).setWants (l := rest) HG.out (WantsAt.kept ?_ fun _ _ _ _ => rfl)).setBlocks (g := { g with wants := rest }) (List.getElem?_set_self hul) (g.blocks + 1)) (by simp [go_sem, cN0, hNg]) (by simp [go_sem, cN1, hNg]) H.out.nr H.out.ng (set_depth (u := u) (g := { g with wants := rest }) (set_depth (g' := { g with wants := rest }) HI.out.depth HG.out rfl) (List.getElem?_set_self hul) rfl) ((by simp; omega)) HN.out HF.out (H.out.ap.trans ((((Ap.refl _).drewN nq).set (a := ⟨gb, u * 4 + 2, none⟩) (.inr rfl) _).set (a := ⟨gb, u * 4 + 3, none⟩) (.inr rfl) _)) _ _ _ _ _ _ _ _ _ _ _ _ _ _ _ _ _ _ _ _ _ _ _ _ _ _ _ _ _ _ _ _ _ _ _ _ _ _ _ _ _ _ _ _ _ _ _ _ _ _ _ _ _ _ _ _ _ _ _ _ _ _ _ _ _ _ _ _ _ _ _ _ _ _ _ _ _ _ _ _ _ _ _ _ _ _ _ _ _ _ _ _ _ _ _ _ _ _ _ _ _ _ _ _ _ _ _ _ _ _ _ _ _ _ _ _ _ _ _ _ _ _ _ _ _ _ _ _ _ _ _ _ _ _ _ _ _ _ _ _ _ _ _ _ _ _ _ _ _ _ _ _ _ _ _ _ _ _ _ _ _ _ _ _ _ _ _ _ _ _ _ _ _ _ _ _ _ _ _ _ _ _ _ _ _ _ _ _ _ _ _ _ _ _ _ _ _ _ _ _ _ _ _ _ _ _ _ _ _ _ _ _ _ _ _ _ _ _ _ _
         all_goals first | exact HWT.out | exact HWT2.out (by omega)
       · have hk1 : (kind == 9) = false := by simp [hk9]
         have hk2 : (kind != 9) = true := by simp [hk9]
         have hn : takeF o heads ⟨depth, kind, name, num, op, at_⟩ = none := by rw [HTK.out, if_pos (.inr (.inr ⟨rfl, hk9⟩))]
         have HN := Lib.hid hn
         clear hn hdd hx0 hk9
         go_wp2_with (go_at_call 13; refine hw52.mono ?_; rintro e w3 ⟨rfl, rfl⟩)
         go_quiet ((go_at_call 24; exact Calls.quiet_of_same (isExpr_any _ _)))
         go_wp2
         rw [<- HQ.out]
         exact ⟨rfl, _, res51 _ false rfl _, stand_refuse HN.out (H.out.ap.trans ((Ap.refl _).drewN _))⟩
     · have hx1b : (x == 1) = false := by simp [hx1]
       have hn : takeF o heads ⟨depth, kind, name, num, op, at_⟩ = some (o.set u { g with wants := rest }) := by
         rw [HTK.out, if_neg (by simp [hx0, hx1]; omega)]; simp [hx1]
       have HN := Lib.hid hn
       clear hn hdd hx0 hx1
       go_wp2_with (go_at_call 13; refine hw52.mono ?_; rintro e w3 ⟨rfl, rfl⟩)
       go_quiet ((go_at_call 24; exact Calls.quiet_of_same (isExpr_any _ _)))
       go_wp2
       all_goals rw [<- HY.out, <- HQ.out]
       all_goals refine stand_tail ((H.out.shm.drewN nq).setWants (l := rest) HG.out (WantsAt.kept  ?_ fun _ _ _ _ => rfl)) (by simp [go_sem, cN0, hNg]) (by simp [go_sem, cN1, hNg]) H.out.nr H.out.ng (set_depth (g' := { g with wants := rest }) HI.out.depth HG.out rfl) ((by simp; omega)) HN.out HF.out (H.out.ap.trans (((Ap.refl _).drewN nq).set (a := ⟨gb, _, none⟩) (.inr rfl) _)) _ _ _ _ _ _ _ _ _ _ _ _ _ _ _ _ _ _ _ _ _ _ _ _ _ _ _ _ _ _ _ _ _ _ _ _ _ _ _ _ _ _ _ _ _ _ _ _ _ _ _ _ _ _ _ _ _ _ _ _ _ _ _ _ _ _ _ _ _ _ _ _ _ _ _ _ _ _ _ _ _ _ _ _ _ _ _ _ _ _ _ _ _ _ _ _ _ _ _ _ _ _ _ _ _ _ _ _ _ _ _ _ _ _ _ _ _ _ _ _ _ _ _ _ _ _ _ _ _ _ _ _ _ _ _ _ _ _ _ _ _ _ _ _ _ _ _ _ _ _ _ _ _ _ _ _ _ _ _ _ _ _ _ _ _ _ _ _ _ _ _ _ _ _ _ _ _ _ _ _ _ _ _ _ _ _ _ _ _ _ _ _ _ _ _ _ _ _ _ _ _ _ _ _ _ _ _ _ _ _ _ _ _ _ _ _ _ _ _ _
       all_goals first | exact HWT.out | exact HWT2.out (by omega)
 · have hd1 : (depth == (u : Int) + 1 + 1) = false := by simp [hd]
   have hd2 : (depth != (u : Int) + 1 + 1) = true := by simp [hd]
   have hn : takeF o heads ⟨depth, kind, name, num, op, at_⟩ = none := by rw [HTK.out, if_pos (.inl hd)]
   have HN := Lib.hid hn
   clear hd hn
   go_wp2_with (go_at_call 13; refine hw52.mono ?_; rintro e w3 ⟨rfl, rfl⟩)
   go_quiet ((go_at_call 24; exact Calls.quiet_of_same (isExpr_any _ _)))
   go_wp2
   rw [<- HQ.out]
   exact ⟨rfl, _, res51 _ false rfl _, stand_refuse HN.out (H.out.ap.trans ((Ap.refl _).drewN _))⟩
end Go.Proofs.YtonmcakdofbjiaaDoor
namespace Go.Proofs.YtonmcakdofbjiaaDoor
open Go.RowKit
def takeN (o : List Hold) (heads : Bool) (n : Nd) (hx : Option Nat) : Option (List Hold) :=
 if n.kind = 0 \/ n.kind = 1 then (if n.depth ≠ 1 \/ heads = false then none else some o)
 else if isStmtB n.kind then
   if n.depth = 1 then some o
   else match hx with
     | some u => match o[u]? with
       | some h => if h.kind = 9 then some o else none
       | none => none
     | none => none
 else if n.kind = 9 then
   match hx with
   | some u => match o[u]? with
     | some h => if h.kind = 7 /\ h.blocks = 1 then some (o.set u { h with blocks := h.blocks + 1 }) else none
     | none => none
   | none => none
 else none
theorem takeF_none {o : List Hold} (h : wantIx o = none) (heads : Bool) (n : Nd) : takeF o heads n = takeN o heads n (heldIx o (IntKind.wrap .i64 (n.depth - 1))) := by
 unfold takeF takeN
 simp only [h]
 first | done | rfl
theorem stand_none {B r gb N : Nat} {o : List Hold} {heads : Bool} {st : List Opn} {begun : Bool} {depth kind : Int} {name : ByteArray} {num op at_ : Int} {w w2 : World} (hI : ShI o heads st begun) (ho : o.length <= 24) (hf : fieldsB ⟨depth, kind, name, num, op, at_⟩ = true) (hH : Hd w w2 B r gb N o heads depth kind) (hwi : wantIx o = none) : st3.wp Tryd.prog (Exit.then (stTail.wp Tryd.prog (bodyPost Tryd.prog Tryd.f12 (StandPost w B r gb o heads ⟨depth, kind, name, num, op, at_⟩))) (bodyPost Tryd.prog Tryd.f12 (StandPost w B r gb o heads ⟨depth, kind, name, num, op, at_⟩))) (F3 r N depth kind name num op at_) w2 := by
 have H := Lib.hid hH
 have HI := Lib.hid hI
 have HF := Lib.hid hf
 have cN0 := hH.c0
 have cN1 := hH.c1
 have hNr := hH.nr
 have hNg := hH.ng
 have hng := hH.shm.ne
 have hw52 := wanting_any w2 hH.shm
 clear hH hI hf
 unfold F3
 generalize hQ : bodyPost Tryd.prog Tryd.f12 (StandPost w B r gb o heads ⟨depth, kind, name, num, op, at_⟩) = Q
 have HQ := Lib.hid hQ
 clear hQ
 generalize hY : stTail.wp Tryd.prog Q = Y
 have HY := Lib.hid hY
 clear hY
 simp only [st3, st0, seqL, seqR, Tryd.f12, Option.getD_some]
 have e0 : ixV none = -1 := rfl
 rw [hwi, e0] at hw52
 clear e0
 have c0 := H.out.shm.c0
 have c1 := H.out.shm.c1
 have hH : ∀ w', ShM w' B r gb o heads -> Calls Tryd.prog 25 #[.pointer (some ⟨r, 0, none⟩), .int .i64 (wrap64 (depth - 1))] w' fun e w'' => e = .returned (.int .i64 (ixV (heldIx o (wrap64 (depth - 1))))) /\ w'' = w' := fun w' h => held_any _ w' h
 have HT : Hid (takeF o heads ⟨depth, kind, name, num, op, at_⟩ = takeN o heads ⟨depth, kind, name, num, op, at_⟩ (heldIx o (wrap64 (depth - 1)))) := by
   have h := takeF_none hwi heads ⟨depth, kind, name, num, op, at_⟩
   rw [Go.IntWalk.i64_left] at h
   exact h
 have hHX : ∀ u, heldIx o (wrap64 (depth - 1)) = some u -> u < o.length := fun u hu => lastIx_lt hu
 generalize heldIx o (wrap64 (depth - 1)) = hx at hH HT hHX
 clear hwi
 by_cases k01 : kind = 0 \/ kind = 1
 · by_cases hd : depth = 1
   · have hd1 : (depth == 1) = true := by simp [hd]
     have hd2 : (depth != 1) = false := by simp [hd]
     cases heads with
     | true =>
       have hn : takeF o true ⟨depth, kind, name, num, op, at_⟩ = some o := by rw [HT.out]; unfold takeN; rw [if_pos k01, if_neg (by simp [hd])]
       have HN := Lib.hid hn
       clear hn HT hd
       rcases k01 with rfl | rfl
       · go_wp2_with (first | (go_at_call 13; refine hw52.mono ?_; rintro e w3 ⟨rfl, rfl⟩) | (go_at_call 25; refine (hH _ H.out.shm).mono ?_; rintro e w3 ⟨rfl, rfl⟩) | (go_at_call 26; refine (isStmt_any _ _).mono ?_; rintro e w3 ⟨rfl, rfl⟩))
         rw [<- HY.out, <- HQ.out]; exact stand_tail (H.out.shm) cN0 cN1 H.out.nr H.out.ng (HI.out.depth) (ho) HN.out HF.out (H.out.ap) _ _ _ _ _ _ _ _ _ _ _ _ _ _ _ _ _ _ _ _ _ _ _ _ _ _ _ _ _ _ _ _ _ _ _ _ _ _ _ _ _ _ _ _ _ _ _ _ _ _ _ _ _ _ _ _ _ _ _ _ _ _ _ _ _ _ _ _ _ _ _ _ _ _ _ _ _ _ _ _ _ _ _ _ _ _ _ _ _ _ _ _ _ _ _ _ _ _ _ _ _ _ _ _ _ _ _ _ _ _ _ _ _ _ _ _ _ _ _ _ _ _ _ _ _ _ _ _ _ _ _ _ _ _ _ _ _ _ _ _ _ _ _ _ _ _ _ _ _ _ _ _ _ _ _ _ _ _ _ _ _ _ _ _ _ _ _ _ _ _ _ _ _ _ _ _ _ _ _ _ _ _ _ _ _ _ _ _ _ _ _ _ _ _ _ _ _ _ _ _ _ _ _ _ _ _ _ _ _ _ _ _ _ _ _ _ _ _ _ _
       · go_wp2_with (first | (go_at_call 13; refine hw52.mono ?_; rintro e w3 ⟨rfl, rfl⟩) | (go_at_call 25; refine (hH _ H.out.shm).mono ?_; rintro e w3 ⟨rfl, rfl⟩) | (go_at_call 26; refine (isStmt_any _ _).mono ?_; rintro e w3 ⟨rfl, rfl⟩))
         rw [<- HY.out, <- HQ.out]; exact stand_tail (H.out.shm) cN0 cN1 H.out.nr H.out.ng (HI.out.depth) (ho) HN.out HF.out (H.out.ap) _ _ _ _ _ _ _ _ _ _ _ _ _ _ _ _ _ _ _ _ _ _ _ _ _ _ _ _ _ _ _ _ _ _ _ _ _ _ _ _ _ _ _ _ _ _ _ _ _ _ _ _ _ _ _ _ _ _ _ _ _ _ _ _ _ _ _ _ _ _ _ _ _ _ _ _ _ _ _ _ _ _ _ _ _ _ _ _ _ _ _ _ _ _ _ _ _ _ _ _ _ _ _ _ _ _ _ _ _ _ _ _ _ _ _ _ _ _ _ _ _ _ _ _ _ _ _ _ _ _ _ _ _ _ _ _ _ _ _ _ _ _ _ _ _ _ _ _ _ _ _ _ _ _ _ _ _ _ _ _ _ _ _ _ _ _ _ _ _ _ _ _ _ _ _ _ _ _ _ _ _ _ _ _ _ _ _ _ _ _ _ _ _ _ _ _ _ _ _ _ _ _ _ _ _ _ _ _ _ _ _ _ _ _ _ _ _ _ _ _
     | false =>
       have hn : takeF o false ⟨depth, kind, name, num, op, at_⟩ = none := by rw [HT.out]; unfold takeN; rw [if_pos k01, if_pos (by simp)]
       have HN := Lib.hid hn
       clear hn HT hd
       rcases k01 with rfl | rfl
       · go_wp2_with (first | (go_at_call 13; refine hw52.mono ?_; rintro e w3 ⟨rfl, rfl⟩) | (go_at_call 25; refine (hH _ H.out.shm).mono ?_; rintro e w3 ⟨rfl, rfl⟩) | (go_at_call 26; refine (isStmt_any _ _).mono ?_; rintro e w3 ⟨rfl, rfl⟩))
         rw [<- HQ.out]; exact ⟨rfl, _, res51 _ false rfl _, stand_refuse HN.out H.out.ap⟩
       · go_wp2_with (first | (go_at_call 13; refine hw52.mono ?_; rintro e w3 ⟨rfl, rfl⟩) | (go_at_call 25; refine (hH _ H.out.shm).mono ?_; rintro e w3 ⟨rfl, rfl⟩) | (go_at_call 26; refine (isStmt_any _ _).mono ?_; rintro e w3 ⟨rfl, rfl⟩))
         rw [<- HQ.out]; exact ⟨rfl, _, res51 _ false rfl _, stand_refuse HN.out H.out.ap⟩
   · have hn : takeF o heads ⟨depth, kind, name, num, op, at_⟩ = none := by rw [HT.out]; unfold takeN; rw [if_pos k01, if_pos (.inl hd)]
     have HN := Lib.hid hn
     have hd1 : (depth == 1) = false := by simp [hd]
     have hd2 : (depth != 1) = true := by simp [hd]
     clear hn HT hd
     rcases k01 with rfl | rfl
     · go_wp2_with (first | (go_at_call 13; refine hw52.mono ?_; rintro e w3 ⟨rfl, rfl⟩) | (go_at_call 25; refine (hH _ H.out.shm).mono ?_; rintro e w3 ⟨rfl, rfl⟩) | (go_at_call 26; refine (isStmt_any _ _).mono ?_; rintro e w3 ⟨rfl, rfl⟩))
       rw [<- HQ.out]; exact ⟨rfl, _, res51 _ false rfl _, stand_refuse HN.out H.out.ap⟩
     · go_wp2_with (first | (go_at_call 13; refine hw52.mono ?_; rintro e w3 ⟨rfl, rfl⟩) | (go_at_call 25; refine (hH _ H.out.shm).mono ?_; rintro e w3 ⟨rfl, rfl⟩) | (go_at_call 26; refine (isStmt_any _ _).mono ?_; rintro e w3 ⟨rfl, rfl⟩))
       rw [<- HQ.out]; exact ⟨rfl, _, res51 _ false rfl _, stand_refuse HN.out H.out.ap⟩
 · have k0 : (kind == 0) = false := by simp; omega
   have k1 : (kind == 1) = false := by simp; omega
   cases hsb : isStmtB kind with
   | true =>
     have hs2 : 2 <= kind /\ kind <= 8 := by unfold isStmtB at hsb; simpa using hsb
     have e0 : ∀ hx', takeN o heads ⟨depth, kind, name, num, op, at_⟩ hx' = (if depth = 1 then some o else match hx' with
         | some u => match o[u]? with
           | some h => if h.kind = 9 then some o else none
           | none => none
         | none => none) := fun hx' => by unfold takeN; rw [if_neg k01, if_pos hsb]
     by_cases hd : depth = 1
     · have hd1 : (depth == 1) = true := by simp [hd]
       have hd2 : (depth != 1) = false := by simp [hd]
       have hn : takeF o heads ⟨depth, kind, name, num, op, at_⟩ = some o := by rw [HT.out, e0, if_pos hd]
       have HN := Lib.hid hn
       clear hn HT e0 k01 hs2 hHX hd
       go_wp2_with (first | (go_at_call 13; refine hw52.mono ?_; rintro e w3 ⟨rfl, rfl⟩) | (go_at_call 25; refine (hH _ H.out.shm).mono ?_; rintro e w3 ⟨rfl, rfl⟩) | (go_at_call 26; refine (isStmt_any _ _).mono ?_; rintro e w3 ⟨rfl, rfl⟩))
       rw [<- HY.out, <- HQ.out]; exact stand_tail (H.out.shm) cN0 cN1 H.out.nr H.out.ng (HI.out.depth) (ho) HN.out HF.out (H.out.ap) _ _ _ _ _ _ _ _ _ _ _ _ _ _ _ _ _ _ _ _ _ _ _ _ _ _ _ _ _ _ _ _ _ _ _ _ _ _ _ _ _ _ _ _ _ _ _ _ _ _ _ _ _ _ _ _ _ _ _ _ _ _ _ _ _ _ _ _ _ _ _ _ _ _ _ _ _ _ _ _ _ _ _ _ _ _ _ _ _ _ _ _ _ _ _ _ _ _ _ _ _ _ _ _ _ _ _ _ _ _ _ _ _ _ _ _ _ _ _ _ _ _ _ _ _ _ _ _ _ _ _ _ _ _ _ _ _ _ _ _ _ _ _ _ _ _ _ _ _ _ _ _ _ _ _ _ _ _ _ _ _ _ _ _ _ _ _ _ _ _ _ _ _ _ _ _ _ _ _ _ _ _ _ _ _ _ _ _ _ _ _ _ _ _ _ _ _ _ _ _ _ _ _ _ _ _ _ _ _ _ _ _ _ _ _ _ _ _ _ _
     · have hd1 : (depth == 1) = false := by simp [hd]
       have hd2 : (depth != 1) = true := by simp [hd]
       cases hx with
       | none =>
         have hn : takeF o heads ⟨depth, kind, name, num, op, at_⟩ = none := by rw [HT.out, e0, if_neg hd]
         have HN := Lib.hid hn
         have e1 : ixV none = -1 := rfl
         rw [e1] at hH
         clear hn HT e0 k01 hs2 hHX hd
         go_wp2_with (first | (go_at_call 13; refine hw52.mono ?_; rintro e w3 ⟨rfl, rfl⟩) | (go_at_call 25; refine (hH _ H.out.shm).mono ?_; rintro e w3 ⟨rfl, rfl⟩) | (go_at_call 26; refine (isStmt_any _ _).mono ?_; rintro e w3 ⟨rfl, rfl⟩))
         rw [<- HQ.out]; exact ⟨rfl, _, res51 _ false rfl _, stand_refuse HN.out H.out.ap⟩
       | some u =>
         have e1 : ixV (some u) = (u : Int) := rfl
         rw [e1] at hH
         have hul := hHX u rfl
         obtain ⟨g, hg⟩ : ∃ g, o[u]? = some g := ⟨_, List.getElem?_eq_getElem hul⟩
         have q1 := H.out.shm.kind hg
         have hu0 : (0 : Int) <= u := by omega
         have hu1 : ((u : Int) < 0) = False := by apply eq_false; omega
         by_cases hk9 : g.kind = 9
         · have hn : takeF o heads ⟨depth, kind, name, num, op, at_⟩ = some o := by rw [HT.out, e0, if_neg hd]; simp only [hg, hk9, if_true]
           have HN := Lib.hid hn
           have hg1 : (g.kind == 9) = true := by simp [hk9]
           have hg2 : (g.kind != 9) = false := by simp [hk9]
           clear hn HT e0 k01 hs2 hHX hd e1 hg hk9
           go_wp2_with (first | (go_at_call 13; refine hw52.mono ?_; rintro e w3 ⟨rfl, rfl⟩) | (go_at_call 25; refine (hH _ H.out.shm).mono ?_; rintro e w3 ⟨rfl, rfl⟩) | (go_at_call 26; refine (isStmt_any _ _).mono ?_; rintro e w3 ⟨rfl, rfl⟩))
           rw [<- HY.out, <- HQ.out]; exact stand_tail (H.out.shm) cN0 cN1 H.out.nr H.out.ng (HI.out.depth) (ho) HN.out HF.out (H.out.ap) _ _ _ _ _ _ _ _ _ _ _ _ _ _ _ _ _ _ _ _ _ _ _ _ _ _ _ _ _ _ _ _ _ _ _ _ _ _ _ _ _ _ _ _ _ _ _ _ _ _ _ _ _ _ _ _ _ _ _ _ _ _ _ _ _ _ _ _ _ _ _ _ _ _ _ _ _ _ _ _ _ _ _ _ _ _ _ _ _ _ _ _ _ _ _ _ _ _ _ _ _ _ _ _ _ _ _ _ _ _ _ _ _ _ _ _ _ _ _ _ _ _ _ _ _ _ _ _ _ _ _ _ _ _ _ _ _ _ _ _ _ _ _ _ _ _ _ _ _ _ _ _ _ _ _ _ _ _ _ _ _ _ _ _ _ _ _ _ _ _ _ _ _ _ _ _ _ _ _ _ _ _ _ _ _ _ _ _ _ _ _ _ _ _ _ _ _ _ _ _ _ _ _ _ _ _ _ _ _ _ _ _ _ _ _ _ _ _ _ _
         · have hn : takeF o heads ⟨depth, kind, name, num, op, at_⟩ = none := by rw [HT.out, e0, if_neg hd]; simp only [hg, hk9, if_false]
           have HN := Lib.hid hn
           have hg1 : (g.kind == 9) = false := by simp [hk9]
           have hg2 : (g.kind != 9) = true := by simp [hk9]
           clear hn HT e0 k01 hs2 hHX hd e1 hg hk9
           go_wp2_with (first | (go_at_call 13; refine hw52.mono ?_; rintro e w3 ⟨rfl, rfl⟩) | (go_at_call 25; refine (hH _ H.out.shm).mono ?_; rintro e w3 ⟨rfl, rfl⟩) | (go_at_call 26; refine (isStmt_any _ _).mono ?_; rintro e w3 ⟨rfl, rfl⟩))
           rw [<- HQ.out]; exact ⟨rfl, _, res51 _ false rfl _, stand_refuse HN.out H.out.ap⟩
   | false =>
     by_cases hk9 : kind = 9
     · subst hk9
       have e0 : ∀ hx', takeN o heads ⟨depth, 9, name, num, op, at_⟩ hx' = (match hx' with
         | some u => match o[u]? with
           | some h => if h.kind = 7 /\ h.blocks = 1 then some (o.set u { h with blocks := h.blocks + 1 }) else none
           | none => none
         | none => none) := fun hx' => by unfold takeN; rw [if_neg k01, if_neg (by simp [hsb]), if_pos rfl]
       cases hx with
       | none =>
         have hn : takeF o heads ⟨depth, 9, name, num, op, at_⟩ = none := by rw [HT.out, e0]
         have HN := Lib.hid hn
         have e1 : ixV none = -1 := rfl
         rw [e1] at hH
         clear hn HT e0 k01 hHX
         go_wp2_with (first | (go_at_call 13; refine hw52.mono ?_; rintro e w3 ⟨rfl, rfl⟩) | (go_at_call 25; refine (hH _ H.out.shm).mono ?_; rintro e w3 ⟨rfl, rfl⟩) | (go_at_call 26; refine (isStmt_any _ _).mono ?_; rintro e w3 ⟨rfl, rfl⟩))
         rw [<- HQ.out]; exact ⟨rfl, _, res51 _ false rfl _, stand_refuse HN.out H.out.ap⟩
       | some u =>
         have e1 : ixV (some u) = (u : Int) := rfl
         rw [e1] at hH
         have hul := hHX u rfl
         obtain ⟨g, hg⟩ : ∃ g, o[u]? = some g := ⟨_, List.getElem?_eq_getElem hul⟩
         have q1 := H.out.shm.kind hg
         have q3 := H.out.shm.blocks hg
         have hgs := HI.out.small u g hg
         have f3 := H.out.shm.fr (u * 4 + 3)
         have hu0 : (0 : Int) <= u := by omega
         have hu1 : ((u : Int) < 0) = False := by apply eq_false; omega
         have HG := Lib.hid hg
         by_cases hk7 : g.kind = 7
         · have hg1 : (g.kind == 7) = true := by simp [hk7]
           have hg2 : (g.kind != 7) = false := by simp [hk7]
           by_cases hb1 : g.blocks = 1
           · have hn : takeF o heads ⟨depth, 9, name, num, op, at_⟩ = some (o.set u { g with blocks := g.blocks + 1 }) := by rw [HT.out, e0]; simp only [hg, hk7, hb1, and_self, if_true]
             have HN := Lib.hid hn
             have hg3 : (g.blocks == 1) = true := by simp [hb1]
             have hg4 : (g.blocks != 1) = false := by simp [hb1]
             clear hn HT e0 k01 hHX e1 hg hk7 hb1
             go_wp2_with (first | (go_at_call 13; refine hw52.mono ?_; rintro e w3 ⟨rfl, rfl⟩) | (go_at_call 25; refine (hH _ H.out.shm).mono ?_; rintro e w3 ⟨rfl, rfl⟩) | (go_at_call 26; refine (isStmt_any _ _).mono ?_; rintro e w3 ⟨rfl, rfl⟩))
             rw [<- HY.out, <- HQ.out]; exact stand_tail (H.out.shm.setBlocks HG.out (g.blocks + 1)) (by simp [go_sem, cN0, hNg]) (by simp [go_sem, cN1, hNg]) H.out.nr H.out.ng (set_depth (g' := { g with blocks := g.blocks + 1 }) HI.out.depth HG.out rfl) ((by simp; omega)) HN.out HF.out (H.out.ap.trans ((Ap.refl _).set (a := ⟨gb, _, none⟩) (.inr rfl) _)) _ _ _ _ _ _ _ _ _ _ _ _ _ _ _ _ _ _ _ _ _ _ _ _ _ _ _ _ _ _ _ _ _ _ _ _ _ _ _ _ _ _ _ _ _ _ _ _ _ _ _ _ _ _ _ _ _ _ _ _ _ _ _ _ _ _ _ _ _ _ _ _ _ _ _ _ _ _ _ _ _ _ _ _ _ _ _ _ _ _ _ _ _ _ _ _ _ _ _ _ _ _ _ _ _ _ _ _ _ _ _ _ _ _ _ _ _ _ _ _ _ _ _ _ _ _ _ _ _ _ _ _ _ _ _ _ _ _ _ _ _ _ _ _ _ _ _ _ _ _ _ _ _ _ _ _ _ _ _ _ _ _ _ _ _ _ _ _ _ _ _ _ _ _ _ _ _ _ _ _ _ _ _ _ _ _ _ _ _ _ _ _ _ _ _ _ _ _ _ _ _ _ _ _ _ _ _ _ _ _ _ _ _ _ _ _ _ _ _ _
           · have hn : takeF o heads ⟨depth, 9, name, num, op, at_⟩ = none := by rw [HT.out, e0]; simp only [hg, hb1, and_false, if_false]
             have HN := Lib.hid hn
             have hg3 : (g.blocks == 1) = false := by simp [hb1]
             have hg4 : (g.blocks != 1) = true := by simp [hb1]
             clear hn HT e0 k01 hHX e1 hg hk7 hb1
             go_wp2_with (first | (go_at_call 13; refine hw52.mono ?_; rintro e w3 ⟨rfl, rfl⟩) | (go_at_call 25; refine (hH _ H.out.shm).mono ?_; rintro e w3 ⟨rfl, rfl⟩) | (go_at_call 26; refine (isStmt_any _ _).mono ?_; rintro e w3 ⟨rfl, rfl⟩))
             rw [<- HQ.out]; exact ⟨rfl, _, res51 _ false rfl _, stand_refuse HN.out H.out.ap⟩
         · have hn : takeF o heads ⟨depth, 9, name, num, op, at_⟩ = none := by rw [HT.out, e0]; simp only [hg, hk7, false_and, if_false]
           have HN := Lib.hid hn
           have hg1 : (g.kind == 7) = false := by simp [hk7]
           have hg2 : (g.kind != 7) = true := by simp [hk7]
           clear hn HT e0 k01 hHX e1 hg hk7
           go_wp2_with (first | (go_at_call 13; refine hw52.mono ?_; rintro e w3 ⟨rfl, rfl⟩) | (go_at_call 25; refine (hH _ H.out.shm).mono ?_; rintro e w3 ⟨rfl, rfl⟩) | (go_at_call 26; refine (isStmt_any _ _).mono ?_; rintro e w3 ⟨rfl, rfl⟩))
           rw [<- HQ.out]; exact ⟨rfl, _, res51 _ false rfl _, stand_refuse HN.out H.out.ap⟩
     · have hn : takeF o heads ⟨depth, kind, name, num, op, at_⟩ = none := by rw [HT.out]; unfold takeN; rw [if_neg k01, if_neg (by simp [hsb]), if_neg hk9]
       have HN := Lib.hid hn
       have hg1 : (kind == 9) = false := by simp [hk9]
       have hg2 : (kind != 9) = true := by simp [hk9]
       clear hn HT k01 hHX hk9
       go_wp2_with (first | (go_at_call 13; refine hw52.mono ?_; rintro e w3 ⟨rfl, rfl⟩) | (go_at_call 25; refine (hH _ H.out.shm).mono ?_; rintro e w3 ⟨rfl, rfl⟩) | (go_at_call 26; refine (isStmt_any _ _).mono ?_; rintro e w3 ⟨rfl, rfl⟩))
       rw [<- HQ.out]; exact ⟨rfl, _, res51 _ false rfl _, stand_refuse HN.out H.out.ap⟩
theorem stands_any {B r gb : Nat} {o : List Hold} {heads : Bool} (n : Nd) (hs : n.name.size <= 140737488355328) (w : World) (h : ShM w B r gb o heads) {st : List Opn} {begun : Bool} (hI : ShI o heads st begun) (ho : o.length <= 24) :
   Calls Tryd.prog 12 #[.pointer (some ⟨r, 0, none⟩), .agg n.cells.toArray] w (StandPost w B r gb o heads n) := by
 obtain ⟨depth, kind, name, num, op, at_⟩ := n
 refine stand_head depth kind name num op at_ hs w h fun hf w2 N hH => ?_
 cases hwi : wantIx o with
 | some u => exact stand_wants hI ho hf hH hwi
 | none => exact stand_none hI ho hf hH hwi
end Go.Proofs.YtonmcakdofbjiaaDoor
