/-
  The parts: base Tam2 base Lan2 base Lan3 base Lan4 base Lan5 base Lan6 base Lan7 base Shelf base Lan8 base Lan9
-/
import Derived.Test.YtonmcakdofbjiaaDoorV3
import Derived.Test.YtonmcakdofbjiaaDoorProg
import Derived.Test.YtonmcakdofbjiaaDoorRows
import Derived.WalkKit
import Derived.WalkSpells
import Derived.WalkLawsBesides
import Derived.Recover
import Derived.RegionTactic
import Derived.Outline
import Derived.Laws.NewBlocks
import Derived.Shelf.LaysC
import Derived.Shelf.Strconv.ParseIntPublic10
set_option linter.unusedVariables false
set_option linter.unusedSimpArgs false
set_option linter.unusedSectionVars false
set_option linter.unnecessarySimpa false
set_option maxRecDepth 100000
set_option maxHeartbeats 8000000
namespace Go.Proofs
open Go.Bsd
theorem allAny_get {P : Program} {l : List (String × (Array Value -> Sem Value))} (h : AllAny P l) {n : Nat} {e : Array Value -> Sem Value} (he : (l[n]?).map (fun x => x.2) = some e) : ∀ a, Any P (e a) := by
 cases hx : l[n]? with
 | none => rw [hx] at he; cases he
 | some x =>
   rw [hx] at he
   simp only [Option.map_some, Option.some.injEq] at he
   subst he
   exact h x (List.mem_of_getElem? hx)
def tameB (k : List Nat) (x : Func × Nat) : Bool := !(x.1.name == "runtime.NumGoroutine") && (x.1.body.isSome || ((Extern.findNext x.1).isNone && (k.contains x.2 || (Extern.find x.1).isNone)))
theorem tame_check {P : Program} (k : List Nat) (h : (P.funcs.toList.zipIdx).all (tameB k) = true) (hk : ∀ (f : FuncId) (fn : Func), f ∈ k -> P.funcs[f]? = some fn -> ∀ e, Extern.find fn = some e -> ∀ a, Any P (e a)) : TameProg P := by
 have get : ∀ (f : FuncId) (fn : Func), P.funcs[f]? = some fn -> tameB k (fn, f) = true := fun f fn hf => by
   rw [List.all_eq_true] at h
   refine h _ ?_
   rw [List.mem_zipIdx_iff_getElem?]
   simpa using hf
 refine ⟨fun f fn hf => ?_, fun f fn hf hb => ?_, fun f fn hf hb e he => ?_⟩
 · have := get f fn hf
   unfold tameB at this
   simp only [Bool.and_eq_true, Bool.not_eq_true'] at this
   exact this.1
 · have := get f fn hf
   unfold tameB at this
   simp only [Bool.and_eq_true, Bool.or_eq_true] at this
   rcases this.2 with h' | h'
   · cases hx : fn.body <;> simp [hx] at h' hb
   · simpa using h'.1
 · have := get f fn hf
   unfold tameB at this
   simp only [Bool.and_eq_true, Bool.or_eq_true] at this
   rcases this.2 with h' | h'
   · cases hx : fn.body <;> simp [hx] at h' hb
   · rcases h'.2 with h2 | h2
     · exact hk f fn (by simpa using h2) hf e he
     · rw [he] at h2; cases h2
theorem Tryd.row96 : Extern.find Tryd.f96 = (Extern.RuntimeError.rows[4]?).map (fun x => x.2) := by kernel_rfl
theorem Tryd.row97 : Extern.find Tryd.f97 = (Extern.RuntimeError.rows[11]?).map (fun x => x.2) := by kernel_rfl
theorem Tryd.row98 : Extern.find Tryd.f98 = (Extern.RuntimeError.rows[0]?).map (fun x => x.2) := by kernel_rfl
theorem Tryd.row99 : Extern.find Tryd.f99 = (Extern.RuntimeError.rows[8]?).map (fun x => x.2) := by kernel_rfl
theorem Tryd.row100 : Extern.find Tryd.f100 = (Extern.RuntimeError.rows[1]?).map (fun x => x.2) := by kernel_rfl
theorem Tryd.row101 : Extern.find Tryd.f101 = (Extern.RuntimeError.rows[9]?).map (fun x => x.2) := by kernel_rfl
theorem Tryd.row102 : Extern.find Tryd.f102 = (Extern.RuntimeError.rows[2]?).map (fun x => x.2) := by kernel_rfl
theorem Tryd.row103 : Extern.find Tryd.f103 = (Extern.RuntimeError.rows[10]?).map (fun x => x.2) := by kernel_rfl
theorem Tryd.row104 : Extern.find Tryd.f104 = (Extern.RuntimeError.rows[5]?).map (fun x => x.2) := by kernel_rfl
theorem Tryd.row105 : Extern.find Tryd.f105 = (Extern.RuntimeError.rows[12]?).map (fun x => x.2) := by kernel_rfl
theorem Tryd.row106 : Extern.find Tryd.f106 = (Extern.RuntimeError.rows[6]?).map (fun x => x.2) := by kernel_rfl
theorem Tryd.row107 : Extern.find Tryd.f107 = (Extern.RuntimeError.rows[13]?).map (fun x => x.2) := by kernel_rfl
theorem Tryd.row109 : Extern.find Tryd.f109 = (Extern.RuntimeError.rows[7]?).map (fun x => x.2) := by kernel_rfl
theorem Tryd.row110 : Extern.find Tryd.f110 = (Extern.RuntimeError.rows[14]?).map (fun x => x.2) := by kernel_rfl
theorem Tryd.row116 : Extern.find Tryd.f116 = (Extern.ReflectliteType.rows[11]?).map (fun x => x.2) := by kernel_rfl
theorem Tryd.tame : TameProg Tryd.prog := by
 refine tame_check [96, 97, 98, 99, 100, 101, 102, 103, 104, 105, 106, 107, 109, 110, 116] (by kernel_rfl) fun f fn hm hf e he => ?_
 simp only [List.mem_cons, List.not_mem_nil, or_false] at hm
 rcases hm with rfl | rfl | rfl | rfl | rfl | rfl | rfl | rfl | rfl | rfl | rfl | rfl | rfl | rfl | rfl
 · obtain rfl := Option.some.inj (Tryd.func96.symm.trans hf)
   exact allAny_get allAny_errors (Tryd.row96.symm.trans he)
 · obtain rfl := Option.some.inj (Tryd.func97.symm.trans hf)
   exact allAny_get allAny_errors (Tryd.row97.symm.trans he)
 · obtain rfl := Option.some.inj (Tryd.func98.symm.trans hf)
   exact allAny_get allAny_errors (Tryd.row98.symm.trans he)
 · obtain rfl := Option.some.inj (Tryd.func99.symm.trans hf)
   exact allAny_get allAny_errors (Tryd.row99.symm.trans he)
 · obtain rfl := Option.some.inj (Tryd.func100.symm.trans hf)
   exact allAny_get allAny_errors (Tryd.row100.symm.trans he)
 · obtain rfl := Option.some.inj (Tryd.func101.symm.trans hf)
   exact allAny_get allAny_errors (Tryd.row101.symm.trans he)
 · obtain rfl := Option.some.inj (Tryd.func102.symm.trans hf)
   exact allAny_get allAny_errors (Tryd.row102.symm.trans he)
 · obtain rfl := Option.some.inj (Tryd.func103.symm.trans hf)
   exact allAny_get allAny_errors (Tryd.row103.symm.trans he)
 · obtain rfl := Option.some.inj (Tryd.func104.symm.trans hf)
   exact allAny_get allAny_errors (Tryd.row104.symm.trans he)
 · obtain rfl := Option.some.inj (Tryd.func105.symm.trans hf)
   exact allAny_get allAny_errors (Tryd.row105.symm.trans he)
 · obtain rfl := Option.some.inj (Tryd.func106.symm.trans hf)
   exact allAny_get allAny_errors (Tryd.row106.symm.trans he)
 · obtain rfl := Option.some.inj (Tryd.func107.symm.trans hf)
   exact allAny_get allAny_errors (Tryd.row107.symm.trans he)
 · obtain rfl := Option.some.inj (Tryd.func109.symm.trans hf)
   exact allAny_get allAny_errors (Tryd.row109.symm.trans he)
 · obtain rfl := Option.some.inj (Tryd.func110.symm.trans hf)
   exact allAny_get allAny_errors (Tryd.row110.symm.trans he)
 · obtain rfl := Option.some.inj (Tryd.func116.symm.trans hf)
   exact allAny_get allAny_types (Tryd.row116.symm.trans he)
end Go.Proofs
namespace Go.Proofs.YtonmcakdofbjiaaDoor
open Go.RowKit
theorem digit_any (x : Int) (w : World) : Calls Tryd.prog 53 #[.int .u8 x] w fun e w' => e = .returned (.bool (decide (48 <= x) && decide (x <= 57))) /\ w' = w := by
 go_enter Tryd.func53, Tryd.ntmps53
 go_wp2
 all_goals
   go_ret
   exact ⟨by simp [*]; try omega, rfl⟩
def isLetter (x : Int) : Bool := (decide (97 <= x) && decide (x <= 122)) || (decide (65 <= x) && decide (x <= 90)) || decide (x = 95)
theorem letter_any (x : Int) (w : World) : Calls Tryd.prog 50 #[.int .u8 x] w fun e w' => e = .returned (.bool (isLetter x)) /\ w' = w := by
 go_enter Tryd.func50, Tryd.ntmps50
 go_wp2
 all_goals
   go_ret
   refine ⟨?_, rfl⟩
   show Ending.returned (.bool _) = Ending.returned (.bool _)
   refine congrArg _ (congrArg _ ?_)
   rw [Bool.eq_iff_iff]
   simp [isLetter]
   try omega
theorem alnum_any (x : Int) (w : World) : Calls Tryd.prog 52 #[.int .u8 x] w fun e w' => e = .returned (.bool (isLetter x || (decide (48 <= x) && decide (x <= 57)))) /\ w' = w := by
 go_enter Tryd.func52, Tryd.ntmps52
 go_wp2_with (first | (go_at_call 50; refine (letter_any _ _).mono ?_; rintro e w' ⟨rfl, rfl⟩) | (go_at_call 53; refine (digit_any _ _).mono ?_; rintro e w' ⟨rfl, rfl⟩))
 all_goals
   go_ret
   refine ⟨?_, rfl⟩
   show Ending.returned (.bool _) = Ending.returned (.bool _)
   refine congrArg _ (congrArg _ ?_)
   simp_all
end Go.Proofs.YtonmcakdofbjiaaDoor
namespace Go.Proofs.YtonmcakdofbjiaaDoor
open Go.RowKit
def isDigit (x : Int) : Bool := decide (48 <= x) && decide (x <= 57)
theorem isDigit_any (x : Int) (w : World) : Calls Tryd.prog 53 #[.int .u8 x] w fun e w' => e = .returned (.bool (isDigit x)) /\ w' = w := digit_any x w
def isAlnum (x : Int) : Bool := isLetter x || isDigit x
theorem isAlnum_any (x : Int) (w : World) : Calls Tryd.prog 52 #[.int .u8 x] w fun e w' => e = .returned (.bool (isAlnum x)) /\ w' = w := alnum_any x w
def isLine (x : Int) : Bool := x != 10
theorem isLine_any (x : Int) (w : World) : Calls Tryd.prog 59 #[.int .u8 x] w fun e w' => e = .returned (.bool (isLine x)) /\ w' = w := by
 go_enter Tryd.func59, Tryd.ntmps59
 go_wp2
 all_goals
   go_ret
   exact ⟨rfl, rfl⟩
def Upto (pred : Int -> Bool) (s : ByteArray) (i k : Nat) : Prop := i <= k /\ k <= s.size /\ (∀ (j : Nat) (h : j < s.size), i <= j -> j < k -> pred s[j].toNat = true) /\ ∀ h : k < s.size, pred s[k].toNat = false
theorem after_digit (s : ByteArray) (i : Nat) (w : World) (hi : i <= s.size) (hs : s.size <= 8796093022207) :
   Calls Tryd.prog 51 #[.string s, .int .i64 i, .func (.func 53) #[] #[]] w fun e w' => (∃ k : Nat, Upto isDigit s i k /\ e = .returned (.int .i64 k)) /\ w' = w := by
 go_enter Tryd.func51, Tryd.ntmps51
 go_wp2
 go_loop [1] (fun c => ∃ k : Nat, i <= k /\ k <= s.size /\ c = .int .i64 k /\ ∀ (j : Nat) (h : j < s.size), i <= j -> j < k -> isDigit s[j].toNat = true)
             (fun c => s.size - (intOf c).toNat)
 case atStart => exact ⟨i, Nat.le_refl _, hi, rfl, fun j _ h1 h2 => by omega⟩
 case round =>
   obtain ⟨k, h1, h2, rfl, h3⟩ := hrel
   go_wp2_with (go_at_call 53; refine (isDigit_any _ _).mono ?_; rintro e w' ⟨rfl, rfl⟩)
   · have hk : isDigit (s[k]).toNat = true := by assumption
     go_round
     case rel =>
       refine ⟨k + 1, by omega, by omega, by go_num, fun j hj a b => ?_⟩
       by_cases e : j = k
       · subst e; exact hk
       · exact h3 j hj a (by omega)
     case measure => simp [intOf]; omega
   · have hlt : k < s.size := by assumption
     have hk : isDigit (s[k]).toNat = false := by assumption
     go_ret
     exact ⟨⟨k, ⟨h1, h2, h3, fun _ => hk⟩, rfl⟩, rfl⟩
   · go_ret
     exact ⟨⟨k, ⟨h1, h2, h3, fun h => absurd h (by assumption)⟩, rfl⟩, rfl⟩
theorem after_alnum (s : ByteArray) (i : Nat) (w : World) (hi : i <= s.size) (hs : s.size <= 8796093022207) :
   Calls Tryd.prog 51 #[.string s, .int .i64 i, .func (.func 52) #[] #[]] w fun e w' => (∃ k : Nat, Upto isAlnum s i k /\ e = .returned (.int .i64 k)) /\ w' = w := by
 go_enter Tryd.func51, Tryd.ntmps51
 go_wp2
 go_loop [1] (fun c => ∃ k : Nat, i <= k /\ k <= s.size /\ c = .int .i64 k /\ ∀ (j : Nat) (h : j < s.size), i <= j -> j < k -> isAlnum s[j].toNat = true)
             (fun c => s.size - (intOf c).toNat)
 case atStart => exact ⟨i, Nat.le_refl _, hi, rfl, fun j _ h1 h2 => by omega⟩
 case round =>
   obtain ⟨k, h1, h2, rfl, h3⟩ := hrel
   go_wp2_with (go_at_call 52; refine (isAlnum_any _ _).mono ?_; rintro e w' ⟨rfl, rfl⟩)
   · have hk : isAlnum (s[k]).toNat = true := by assumption
     go_round
     case rel =>
       refine ⟨k + 1, by omega, by omega, by go_num, fun j hj a b => ?_⟩
       by_cases e : j = k
       · subst e; exact hk
       · exact h3 j hj a (by omega)
     case measure => simp [intOf]; omega
   · have hlt : k < s.size := by assumption
     have hk : isAlnum (s[k]).toNat = false := by assumption
     go_ret
     exact ⟨⟨k, ⟨h1, h2, h3, fun _ => hk⟩, rfl⟩, rfl⟩
   · go_ret
     exact ⟨⟨k, ⟨h1, h2, h3, fun h => absurd h (by assumption)⟩, rfl⟩, rfl⟩
theorem after_line (s : ByteArray) (i : Nat) (w : World) (hi : i <= s.size) (hs : s.size <= 8796093022207) :
   Calls Tryd.prog 51 #[.string s, .int .i64 i, .func (.func 59) #[] #[]] w fun e w' => (∃ k : Nat, Upto isLine s i k /\ e = .returned (.int .i64 k)) /\ w' = w := by
 go_enter Tryd.func51, Tryd.ntmps51
 go_wp2
 go_loop [1] (fun c => ∃ k : Nat, i <= k /\ k <= s.size /\ c = .int .i64 k /\ ∀ (j : Nat) (h : j < s.size), i <= j -> j < k -> isLine s[j].toNat = true)
             (fun c => s.size - (intOf c).toNat)
 case atStart => exact ⟨i, Nat.le_refl _, hi, rfl, fun j _ h1 h2 => by omega⟩
 case round =>
   obtain ⟨k, h1, h2, rfl, h3⟩ := hrel
   go_wp2_with (go_at_call 59; refine (isLine_any _ _).mono ?_; rintro e w' ⟨rfl, rfl⟩)
   · have hk : isLine (s[k]).toNat = true := by assumption
     go_round
     case rel =>
       refine ⟨k + 1, by omega, by omega, by go_num, fun j hj a b => ?_⟩
       by_cases e : j = k
       · subst e; exact hk
       · exact h3 j hj a (by omega)
     case measure => simp [intOf]; omega
   · have hlt : k < s.size := by assumption
     have hk : isLine (s[k]).toNat = false := by assumption
     go_ret
     exact ⟨⟨k, ⟨h1, h2, h3, fun _ => hk⟩, rfl⟩, rfl⟩
   · go_ret
     exact ⟨⟨k, ⟨h1, h2, h3, fun h => absurd h (by assumption)⟩, rfl⟩, rfl⟩
end Go.Proofs.YtonmcakdofbjiaaDoor
namespace Go.Proofs.YtonmcakdofbjiaaDoor
open Go.RowKit
def isBlank (x : Int) : Bool := x == 9 || x == 10 || x == 13 || x == 32
inductive Skips (s : ByteArray) : Nat -> Nat -> Prop
 | here (k : Nat) : Skips s k k
 | blank {i k : Nat} (h : i < s.size) (hb : isBlank s[i].toNat = true) (hk : Skips s (i + 1) k) : Skips s i k
 | remark {i j k : Nat} (h : i < s.size) (hb : (s[i]).toNat = 35) (hj : Upto isLine s i j) (hk : Skips s j k) : Skips s i k
theorem passed_any (s : ByteArray) (i : Nat) (w : World) (hi : i <= s.size) (hs : s.size <= 8796093022207) :
   Calls Tryd.prog 44 #[.string s, .int .i64 i] w fun e w' => (∃ k : Nat, Skips s i k /\ k <= s.size /\ (∀ h : k < s.size, isBlank s[k].toNat = false /\ (s[k]).toNat ≠ 35) /\ e = .returned (.int .i64 k)) /\ w' = w := by
 go_enter Tryd.func44, Tryd.ntmps44
 go_wp2
 go_loop [1] (fun c => ∃ k : Nat, i <= k /\ k <= s.size /\ c = .int .i64 k /\ ∀ m, Skips s k m -> Skips s i m)
             (fun c => s.size - (intOf c).toNat)
 case atStart => exact ⟨i, Nat.le_refl _, hi, rfl, fun m h => h⟩
 case round =>
   obtain ⟨k, h1, h2, rfl, h3⟩ := hrel
   go_wp2_with (go_at_call 51; refine (after_line s _ _ (by omega) hs).mono ?_; rintro e w' ⟨⟨j, hj, rfl⟩, rfl⟩)
   · have hlt : k < s.size := by assumption
     have hb : isBlank (s[k]).toNat = true := by simp [isBlank, *]
     exact ⟨⟨k + 1, by omega, by omega, by go_num, fun m hm => h3 m (.blank hlt hb hm)⟩, by simp [intOf]; omega⟩
   · have hlt : k < s.size := by assumption
     have hb : isBlank (s[k]).toNat = true := by simp [isBlank, *]
     exact ⟨⟨k + 1, by omega, by omega, by go_num, fun m hm => h3 m (.blank hlt hb hm)⟩, by simp [intOf]; omega⟩
   · have hlt : k < s.size := by assumption
     have hb : isBlank (s[k]).toNat = true := by simp [isBlank, *]
     exact ⟨⟨k + 1, by omega, by omega, by go_num, fun m hm => h3 m (.blank hlt hb hm)⟩, by simp [intOf]; omega⟩
   · have hlt : k < s.size := by assumption
     have hb : isBlank (s[k]).toNat = true := by simp [isBlank, *]
     exact ⟨⟨k + 1, by omega, by omega, by go_num, fun m hm => h3 m (.blank hlt hb hm)⟩, by simp [intOf]; omega⟩
   · have hlt : k < s.size := by assumption
     have h35 : (((s[k]).toNat : Int) == 35) = true := by assumption
     have e35 : (s[k]).toNat = 35 := by have := eq_of_beq h35; omega
     have hkj : k < j := by
       rcases Nat.lt_or_ge k j with h | h
       · exact h
       · exfalso
         have e : k = j := Nat.le_antisymm hj.1 h
         subst e
         have := hj.2.2.2 hlt
         simp [isLine, e35] at this
     have hjs := hj.2.1
     exact ⟨⟨j, by omega, hjs, rfl, fun m hm => h3 m (.remark hlt e35 hj hm)⟩, by simp [intOf]; omega⟩
   · have hlt : k < s.size := by assumption
     have h35 : (((s[k]).toNat : Int) == 35) = false := by assumption
     go_ret
     refine ⟨⟨k, h3 k (.here k), h2, fun _ => ⟨by simp [isBlank, *], fun e => ?_⟩, rfl⟩, rfl⟩
     rw [e] at h35
     simp at h35
   · go_ret
     exact ⟨⟨k, h3 k (.here k), h2, fun h => absurd h (by assumption), rfl⟩, rfl⟩
end Go.Proofs.YtonmcakdofbjiaaDoor
namespace Go.Proofs.YtonmcakdofbjiaaDoor
open Go.RowKit
def twos : List (List UInt8) := [[60, 61], [62, 61], [61, 61], [33, 61], [38, 38], [124, 124], [58, 61]]
def ones : List Int := [43, 45, 42, 47, 37, 60, 62, 33, 40, 41, 91, 93, 123, 125, 59]
def signAt (s : ByteArray) (i : Nat) : ByteArray :=
 if i + 1 < s.size /\ twos.any (fun t => (s.extract i (i + 2)).toList == t) = true then s.extract i (i + 2)
 else if h : i < s.size then (if ones.any (fun t => ((s[i]).toNat : Int) == t) = true then s.extract i (i + 1) else ⟨#[]⟩) else ⟨#[]⟩
theorem sign_any (s : ByteArray) (i : Nat) (w : World) (hi : i < s.size) (hs : s.size <= 8796093022207) :
   Calls Tryd.prog 57 #[.string s, .int .i64 i] w fun e w' => e = .returned (.string (signAt s i)) /\ w' = w := by
 go_enter Tryd.func57, Tryd.ntmps57
 go_wp2
 all_goals first
   | (exfalso
      simp_all
      done)
   | (go_ret
      refine ⟨?_, rfl⟩
      show Ending.returned (.string _) = Ending.returned (.string _)
      refine congrArg _ (congrArg _ ?_)
      have hlt1 : i + 1 < s.size \/ ¬ i + 1 < s.size := by omega
      rcases hlt1 with h1 | h1
      · first
          | (exfalso
             omega)
          | (simp_all [signAt, twos, ones]
             done)
      · first
          | (exfalso
             omega)
          | (simp_all [signAt, twos, ones]
             done)
          | (simp_all [signAt, twos, ones]
             intro hh
             omega))
end Go.Proofs.YtonmcakdofbjiaaDoor
namespace Go.Proofs.YtonmcakdofbjiaaDoor
open Go.RowKit
def itemV (kind : Int) (text : ByteArray) (num : Int) (at_ : Int) (code : Int) (where_ : Int) : Value := .agg #[.int .i64 kind, .string text, .int .i64 num, .int .i64 at_, .int .i64 code, .int .i64 where_]
theorem kind4_any (i : Nat) (w : World) : Calls Tryd.prog 58 #[.int .i64 i] w fun e w' => e = .returned (.tuple #[itemV 0 ⟨#[]⟩ 0 0 20 i, .bool true]) /\ Below w.heap.size w w' := by
 go_enter Tryd.func58, Tryd.ntmps58
 go_wp2
 refine bodyPost_ret (v := .tuple #[itemV 0 ⟨#[]⟩ 0 0 20 i, .bool true]) (by simp [results, Tryd.f58, itemV, go_sem]; try rfl) rfl ?_
 exact ⟨rfl, (Below.refl _ w).alloc (Nat.le_refl _) _⟩
theorem kind3_any (s : ByteArray) (i : Nat) (b : Nat) (w : World) (hb : w.cell? ⟨b, 0, none⟩ = some (.string s)) (hi : i < s.size) (hs : s.size <= 8796093022207) :
   Calls Tryd.prog 56 #[.int .i64 i, .pointer (some ⟨b, 0, none⟩)] w fun e w' => e = .returned (.tuple #[itemV 2 (signAt s i) 0 i 0 0, .bool !(signAt s i).toList.isEmpty]) /\ Below w.heap.size w w' := by
 go_enter Tryd.func56, Tryd.ntmps56
 have hbl : b < w.heap.size := by
   unfold World.cell? at hb
   rcases Nat.lt_or_ge b w.heap.size with h | h
   · exact h
   · rw [Array.getElem?_eq_none h] at hb; cases hb
 go_wp2_with (go_at_call 57; refine (sign_any s i _ hi hs).mono ?_; rintro e w' ⟨rfl, rfl⟩)
 refine bodyPost_ret (v := .tuple #[itemV 2 (signAt s i) 0 i 0 0, .bool !(signAt s i).toList.isEmpty]) (by simp [results, Tryd.f56, itemV, go_sem]; try rfl) rfl ?_
 exact ⟨rfl, (Below.refl _ w).alloc (Nat.le_refl _) _⟩
theorem kind1_any (s : ByteArray) (i : Nat) (b : Nat) (w : World) (hb : w.cell? ⟨b, 0, none⟩ = some (.string s)) (hi : i < s.size) (hs : s.size <= 8796093022207) :
   Calls Tryd.prog 49 #[.int .i64 i, .pointer (some ⟨b, 0, none⟩)] w fun e w' =>
     ((isLetter (s[i]).toNat = false /\ e = .returned (.tuple #[itemV 0 ⟨#[]⟩ 0 0 0 0, .bool false])) \/
       (isLetter (s[i]).toNat = true /\ ∃ k, Upto isAlnum s i k /\ ((16 < k - i /\ e = .returned (.tuple #[itemV 0 ⟨#[]⟩ 0 0 21 i, .bool true])) \/ (k - i <= 16 /\ e = .returned (.tuple #[itemV 0 (s.extract i k) 0 i 0 0, .bool true]))))) /\ Below w.heap.size w w' := by
 go_enter Tryd.func49, Tryd.ntmps49
 have hbl : b < w.heap.size := by
   unfold World.cell? at hb
   rcases Nat.lt_or_ge b w.heap.size with h | h
   · exact h
   · rw [Array.getElem?_eq_none h] at hb; cases hb
 go_wp2_with (first | (go_at_call 50; refine (letter_any _ _).mono ?_; rintro e w' ⟨rfl, rfl⟩) | (go_at_call 51; refine (after_alnum s i _ (by omega) hs).mono ?_; rintro e w' ⟨⟨k, hk, rfl⟩, rfl⟩; have hk1 := hk.1; have hk2 := hk.2.1))
 · have hl : (!isLetter (s[i]).toNat) = true := by assumption
   have hl' : isLetter (s[i]).toNat = false := by simpa using hl
   refine bodyPost_ret (v := .tuple #[itemV 0 ⟨#[]⟩ 0 0 0 0, .bool false]) (by simp [results, Tryd.f49, itemV, go_sem]; try rfl) rfl ?_
   exact ⟨.inl ⟨hl', rfl⟩, by first | exact (Below.refl _ w).alloc (Nat.le_refl _) _ | exact ((Below.refl _ w).alloc (Nat.le_refl _) _).setCell (Nat.le_refl _) _⟩
 · have hl : (!isLetter (s[i]).toNat) = false := by assumption
   have hl' : isLetter (s[i]).toNat = true := by simpa using hl
   have hgt : 16 < (k : Int) - i := by assumption
   refine bodyPost_ret (v := .tuple #[itemV 0 ⟨#[]⟩ 0 0 21 i, .bool true]) (by simp [results, Tryd.f49, itemV, go_sem]; try rfl) rfl ?_
   exact ⟨.inr ⟨hl', k, hk, .inl ⟨by omega, rfl⟩⟩, by first | exact (Below.refl _ w).alloc (Nat.le_refl _) _⟩
 · have hl : (!isLetter (s[i]).toNat) = false := by assumption
   have hl' : isLetter (s[i]).toNat = true := by simpa using hl
   have hle : (k : Int) - i <= 16 := by assumption
   refine bodyPost_ret (v := .tuple #[itemV 0 (s.extract i k) 0 i 0 0, .bool true]) (by simp [results, Tryd.f49, itemV, go_sem]; try rfl) rfl ?_
   exact ⟨.inr ⟨hl', k, hk, .inr ⟨by omega, rfl⟩⟩, by first | exact (Below.refl _ w).alloc (Nat.le_refl _) _⟩
end Go.Proofs.YtonmcakdofbjiaaDoor
namespace Go.Proofs.YtonmcakdofbjiaaDoor
open Go.RowKit
theorem wcatch_idle (p q r : Addr) (w : World) :
   CallsD Tryd.prog 62 #[.pointer (some p), .pointer (some q), .pointer (some r)] .returning w fun e u' w' => e = .returned (.tuple #[]) /\ u' = .returning /\ w' = w.alloc (.cells #[.int .i64 0, .int .i64 0] 99) := by
 have ta : ∀ w, (Instr.typeAssert .nilIface 20 99 true).run Tryd.prog w = .ok (.tuple #[.agg #[.int .i64 0, .int .i64 0], .bool false]) w := fun w => by kernel_rfl
 refine callsD_of_wpS Tryd.func62 rfl fun c₀ cs hu => ?_
 apply wpS_seq
 apply wpS_region
 simp [wpOpsS, go_sem, recoverD, hu, Tryd.ntmps62, Exit.thenS, ta]
 refine wpS_of_wp ?_
 simp only [Array.replicate_succ, Array.replicate_zero, List.push_toArray, List.append_toArray, List.nil_append, List.cons_append, List.setIfInBounds_toArray, List.set_cons_succ, List.set_cons_zero]
 go_wp2
 cases c₀
 simp_all [bodyPostS, results, Tryd.results62]
theorem wcatch_panicking (b : Nat) (x y : Int) (w : World) (c1 : w.cell? ⟨b, 0, none⟩ = some (.int .i64 0)) (c2 : w.cell? ⟨b + 1, 0, none⟩ = some (.int .i64 0)) (c3 : w.cell? ⟨b + 1 + 1, 0, none⟩ = some (.int .i64 0)) (fp : w.frozen? ⟨b, 0, none⟩ = false) (fq : w.frozen? ⟨b + 1, 0, none⟩ = false) (fr : w.frozen? ⟨b + 1 + 1, 0, none⟩ = false) (hl : b + 1 + 1 < w.heap.size) :
   CallsD Tryd.prog 62 #[.pointer (some ⟨b, 0, none⟩), .pointer (some ⟨b + 1, 0, none⟩), .pointer (some ⟨b + 1 + 1, 0, none⟩)] (.panicking [{ v := .iface 99 (.agg #[.int .i64 x, .int .i64 y]), recovered := false }]) w fun e u' w' => e = .returned (.tuple #[]) /\ u' = .panicking [{ v := .iface 99 (.agg #[.int .i64 x, .int .i64 y]), recovered := true }] /\ w' = ((((w.setCell ⟨b, 0, none⟩ (.int .i64 0)).setCell ⟨b + 1, 0, none⟩ (.int .i64 x)).setCell ⟨b + 1 + 1, 0, none⟩ (.int .i64 y)).alloc (.cells #[.int .i64 x, .int .i64 y] 99)).drew := by
 have ta : ∀ w, (Instr.typeAssert (.iface 99 (.agg #[.int .i64 x, .int .i64 y])) 20 99 true).run Tryd.prog w = .ok (.tuple #[.agg #[.int .i64 x, .int .i64 y], .bool true]) w := fun w => by kernel_rfl
 have l1 : b < w.heap.size := by omega
 have l2 : b + 1 < w.heap.size := by omega
 refine callsD_of_wpS Tryd.func62 rfl fun c₀ cs hu => ?_
 apply wpS_seq
 apply wpS_region
 simp [wpOpsS, go_sem, recoverD, hu, Tryd.ntmps62, Exit.thenS, ta]
 refine wpS_of_wp ?_
 simp only [Array.replicate_succ, Array.replicate_zero, List.push_toArray, List.append_toArray, List.nil_append, List.cons_append, List.setIfInBounds_toArray, List.set_cons_succ, List.set_cons_zero]
 go_wp2
 go_region
 show bodyPostS Tryd.prog Tryd.f62 c₀ cs _ _ _ _ _
 cases c₀
 simp_all [bodyPostS, results, Tryd.results62]
end Go.Proofs.YtonmcakdofbjiaaDoor
namespace Go.Proofs
open Go.Shelf
def Tryd.laysC174_ren : Go.Shelf.Ren := ⟨fun | 174 => 63 | 247 => 70 | 245 => 71 | 287 => 73 | 279 => 74 | 280 => 75 | 281 => 76 | 282 => 77 | 321 => 78 | 322 => 79 | 316 => 80 | 171 => 82 | 205 => 81 | 243 => 83 | 246 => 84 | 283 => 85 | 284 => 86 | 285 => 87 | 286 => 88 | 129 => 90 | 317 => 89 | 318 => 91 | 319 => 92 | 320 => 93 | 337 => 94 | 338 => 95 | n => n, fun | 9 => 9 | 3 => 3 | 2 => 2 | 75 => 36 | 85 => 101 | 4 => 4 | 167 => 107 | 5 => 5 | 53 => 108 | 175 => 109 | 46 => 111 | 168 => 112 | 37 => 116 | 0 => 0 | 210 => 119 | 21 => 21 | 127 => 122 | 145 => 125 | 143 => 123 | 171 => 127 | 173 => 130 | 212 => 133 | 51 => 134 | 20 => 20 | 213 => 135 | 232 => 138 | 233 => 139 | 80 => 80 | n => n, fun | 15 => 1 | 16 => 2 | 17 => 3 | 18 => 4 | 19 => 5 | n => n⟩
theorem Tryd.laysC174 : Go.Proofs.LaysC.n174 Tryd.prog Tryd.laysC174_ren := {
 mixed := by kernel_rfl
 f129 := Tryd.func90.trans (congrArg some (by kernel_rfl))
 f171 := Tryd.func82.trans (congrArg some (by kernel_rfl))
 f174 := Tryd.func63.trans (congrArg some (by kernel_rfl))
 f205 := Tryd.func81.trans (congrArg some (by kernel_rfl))
 f243 := Tryd.func83.trans (congrArg some (by kernel_rfl))
 f245 := Tryd.func71.trans (congrArg some (by kernel_rfl))
 f246 := Tryd.func84.trans (congrArg some (by kernel_rfl))
 f247 := Tryd.func70.trans (congrArg some (by kernel_rfl))
 f279 := Tryd.func74.trans (congrArg some (by kernel_rfl))
 f280 := Tryd.func75.trans (congrArg some (by kernel_rfl))
 f281 := Tryd.func76.trans (congrArg some (by kernel_rfl))
 f282 := Tryd.func77.trans (congrArg some (by kernel_rfl))
 f283 := Tryd.func85.trans (congrArg some (by kernel_rfl))
 f284 := Tryd.func86.trans (congrArg some (by kernel_rfl))
 f285 := Tryd.func87.trans (congrArg some (by kernel_rfl))
 f286 := Tryd.func88.trans (congrArg some (by kernel_rfl))
 f287 := Tryd.func73.trans (congrArg some (by kernel_rfl))
 f316 := Tryd.func80.trans (congrArg some (by kernel_rfl))
 f317 := Tryd.func89.trans (congrArg some (by kernel_rfl))
 f318 := Tryd.func91.trans (congrArg some (by kernel_rfl))
 f319 := Tryd.func92.trans (congrArg some (by kernel_rfl))
 f320 := Tryd.func93.trans (congrArg some (by kernel_rfl))
 f321 := Tryd.func78.trans (congrArg some (by kernel_rfl))
 f322 := Tryd.func79.trans (congrArg some (by kernel_rfl))
 f337 := Tryd.func94.trans (congrArg some (by kernel_rfl))
 f338 := Tryd.func95.trans (congrArg some (by kernel_rfl))
 t0 := Tryd.underlying0
 a0 := Tryd.isAgg0
 z0 := Tryd.sizeOf0
 v0 := Tryd.zeroValue0
 t2 := Tryd.underlying2
 a2 := Tryd.isAgg2
 z2 := Tryd.sizeOf2
 v2 := Tryd.zeroValue2
 t3 := Tryd.underlying3
 a3 := Tryd.isAgg3
 z3 := Tryd.sizeOf3
 v3 := Tryd.zeroValue3
 t4 := Tryd.underlying4
 a4 := Tryd.isAgg4
 z4 := Tryd.sizeOf4
 v4 := Tryd.zeroValue4
 t5 := Tryd.underlying5
 a5 := Tryd.isAgg5
 z5 := Tryd.sizeOf5
 v5 := Tryd.zeroValue5
 t9 := Tryd.underlying9
 a9 := Tryd.isAgg9
 z9 := Tryd.sizeOf9
 v9 := Tryd.zeroValue9
 t20 := Tryd.underlying20
 a20 := Tryd.isAgg20
 z20 := Tryd.sizeOf20
 v20 := Tryd.zeroValue20
 t21 := Tryd.underlying21
 a21 := Tryd.isAgg21
 z21 := Tryd.sizeOf21
 v21 := Tryd.zeroValue21
 t37 := Tryd.underlying116
 a37 := Tryd.isAgg116
 z37 := Tryd.sizeOf116
 v37 := Tryd.zeroValue116
 t46 := Tryd.underlying111
 a46 := Tryd.isAgg111
 z46 := Tryd.sizeOf111
 v46 := Tryd.zeroValue111
 t51 := Tryd.underlying134
 a51 := Tryd.isAgg134
 z51 := Tryd.sizeOf134
 v51 := Tryd.zeroValue134
 t53 := Tryd.underlying108
 a53 := Tryd.isAgg108
 z53 := Tryd.sizeOf108
 v53 := Tryd.zeroValue108
 t75 := Tryd.underlying36
 a75 := Tryd.isAgg36
 z75 := Tryd.sizeOf36
 v75 := Tryd.zeroValue36
 t85 := Tryd.underlying101
 a85 := Tryd.isAgg101
 z85 := Tryd.sizeOf101
 v85 := Tryd.zeroValue101
 t127 := Tryd.underlying122
 a127 := Tryd.isAgg122
 z127 := Tryd.sizeOf122
 v127 := Tryd.zeroValue122
 t143 := Tryd.underlying123
 a143 := Tryd.isAgg123
 z143 := Tryd.sizeOf123
 v143 := Tryd.zeroValue123
 t145 := Tryd.underlying125
 a145 := Tryd.isAgg125
 z145 := Tryd.sizeOf125
 v145 := Tryd.zeroValue125
 t167 := Tryd.underlying107
 a167 := Tryd.isAgg107
 z167 := Tryd.sizeOf107
 v167 := Tryd.zeroValue107
 t168 := Tryd.underlying112
 a168 := Tryd.isAgg112
 z168 := Tryd.sizeOf112
 v168 := Tryd.zeroValue112
 t171 := Tryd.underlying127
 a171 := Tryd.isAgg127
 z171 := Tryd.sizeOf127
 v171 := Tryd.zeroValue127
 t173 := Tryd.underlying130
 a173 := Tryd.isAgg130
 z173 := Tryd.sizeOf130
 v173 := Tryd.zeroValue130
 t175 := Tryd.underlying109
 a175 := Tryd.isAgg109
 z175 := Tryd.sizeOf109
 v175 := Tryd.zeroValue109
 t210 := Tryd.underlying119
 a210 := Tryd.isAgg119
 z210 := Tryd.sizeOf119
 v210 := Tryd.zeroValue119
 t212 := Tryd.underlying133
 a212 := Tryd.isAgg133
 z212 := Tryd.sizeOf133
 v212 := Tryd.zeroValue133
 t213 := Tryd.underlying135
 a213 := Tryd.isAgg135
 z213 := Tryd.sizeOf135
 t232 := Tryd.underlying138
 a232 := Tryd.isAgg138
 z232 := Tryd.sizeOf138
 v232 := Tryd.zeroValue138
 t233 := Tryd.underlying139
 a233 := Tryd.isAgg139
 z233 := Tryd.sizeOf139
 v233 := Tryd.zeroValue139
 g15 := by kernel_rfl
 g16 := by kernel_rfl
 g17 := by kernel_rfl
 g18 := by kernel_rfl
 g19 := by kernel_rfl
 t80 := Tryd.underlying80
 a80 := Tryd.isAgg80
 z80 := Tryd.sizeOf80
 v80 := Tryd.zeroValue80
 i0 := by kernel_rfl
 i2 := by kernel_rfl
 i3 := by kernel_rfl
 i4 := by kernel_rfl
 i5 := by kernel_rfl
 i9 := by kernel_rfl
 i20 := by kernel_rfl
 i21 := by kernel_rfl
 i37 := by kernel_rfl
 i46 := by kernel_rfl
 i51 := by kernel_rfl
 i53 := by kernel_rfl
 i75 := by kernel_rfl
 i80 := by kernel_rfl
 i85 := by kernel_rfl
 i127 := by kernel_rfl
 i143 := by kernel_rfl
 i145 := by kernel_rfl
 i167 := by kernel_rfl
 i168 := by kernel_rfl
 i171 := by kernel_rfl
 i173 := by kernel_rfl
 i175 := by kernel_rfl
 i210 := by kernel_rfl
 i212 := by kernel_rfl
 i232 := by kernel_rfl
 i233 := by kernel_rfl
 m15 := by kernel_rfl
 m16 := by kernel_rfl
 m17 := by kernel_rfl
 m18 := by kernel_rfl
 m19 := by kernel_rfl
 c0 := by kernel_rfl
 c2 := by kernel_rfl
 c3 := by kernel_rfl
 c4 := by kernel_rfl
 c5 := by kernel_rfl
 c9 := by kernel_rfl
 c20 := by kernel_rfl
 c21 := by kernel_rfl
 c37 := by kernel_rfl
 c46 := by kernel_rfl
 c51 := by kernel_rfl
 c53 := by kernel_rfl
 c75 := by kernel_rfl
 c80 := by kernel_rfl
 c85 := by kernel_rfl
 c127 := by kernel_rfl
 c143 := by kernel_rfl
 c145 := by kernel_rfl
 c167 := by kernel_rfl
 c168 := by kernel_rfl
 c171 := by kernel_rfl
 c173 := by kernel_rfl
 c175 := by kernel_rfl
 c210 := by kernel_rfl
 c212 := by kernel_rfl
 c213 := by kernel_rfl
 c232 := by kernel_rfl
 c233 := by kernel_rfl }
open Go.RowKit in
theorem Tryd.strconv_ParseInt_10_at64_ok (s : ByteArray) (hmax : s.size <= 9223372036854775806) (v : Int) (h : Lib.parseIntB 64 s.data.toList = .ok v) (w : World) :
   Calls Tryd.prog 63 #[.string s, .int .i64 10, .int .i64 64] w fun e w' => e = .returned (.tuple #[.int .i64 v, .nilIface]) /\ (w' = w \/ ∃ t, w' = Lib.bytesWorld w 5 t) := Any.strconv_ParseInt_10_at64_ok Tryd.laysC174 s hmax v h w
open Go.RowKit in
theorem Tryd.strconv_ParseInt_10_at64_range (s : ByteArray) (hlim : s.size <= 281474976710656) (h : Lib.parseIntB 64 s.data.toList = .range) (ev : Value) (w : World) (hv : w.cell? ⟨2, 0, none⟩ = some ev) (hev : ev = .nilIface \/ ∃ te pe, ev = .iface te pe) :
   Calls Tryd.prog 63 #[.string s, .int .i64 10, .int .i64 64] w fun e w' => ∃ N, e = .returned (.tuple #[.int .i64 (Lib.intSat 64 s.data.toList), .iface 112 (.pointer (some ⟨N, 0, none⟩))]) /\ w.heap.size <= N /\ w'.heap[N]? = some (.cells #[.string ⟨#[80, 97, 114, 115, 101, 73, 110, 116]⟩, .string s, ev] 119 (0, 0)) /\ Below w.heap.size w w' := Any.strconv_ParseInt_10_at64_range Tryd.laysC174 s hlim h ev w hv hev
end Go.Proofs
namespace Go.Proofs.YtonmcakdofbjiaaDoor
open Go.RowKit
theorem bcell {W w1 : World} (hb : Below W.heap.size W w1) : (∀ b o, b < W.heap.size -> w1.cell? ⟨b, o, none⟩ = W.cell? ⟨b, o, none⟩) /\ (∀ b o, b < W.heap.size -> w1.frozen? ⟨b, o, none⟩ = W.frozen? ⟨b, o, none⟩) :=
 ⟨fun b o h => hb.cell (p := ⟨b, o, none⟩) h, fun b o h => hb.frozen (p := ⟨b, o, none⟩) h⟩
def numOf (s : ByteArray) : Int × Int := match Lib.parseIntB 64 s.data.toList with | .ok v => (v, 0) | _ => (0, 11)
theorem parseInt_any (s : ByteArray) (hs : s.size <= 8796093022207) (w : World) (e1 e2 : Value) (h8 : w.cell? ⟨1, 0, none⟩ = some e1) (h9 : w.cell? ⟨2, 0, none⟩ = some e2) (he1 : ∃ te pe, e1 = .iface te pe) (he2 : ∃ te pe, e2 = .iface te pe) :
   Calls Tryd.prog 63 #[.string s, .int .i64 10, .int .i64 64] w fun e w' => (∃ v er, e = .returned (.tuple #[.int .i64 v, er]) /\ ((er = .nilIface /\ numOf s = (v, 0)) \/ ((∃ N, er = .iface 112 (.pointer (some ⟨N, 0, none⟩))) /\ numOf s = (0, 11)))) /\ Below w.heap.size w w' := by
 unfold numOf
 rcases h : Lib.parseIntB 64 s.data.toList with v | _ | _
 · refine (Tryd.strconv_ParseInt_10_at64_ok s (by omega) v h w).mono ?_
   rintro e w' ⟨rfl, hw⟩
   refine ⟨⟨v, .nilIface, rfl, .inl ⟨rfl, rfl⟩⟩, ?_⟩
   rcases hw with rfl | ⟨t, rfl⟩
   · exact Below.refl _ _
   · exact Lib.bytesWorld_below w 5 t
 · refine (Any.strconv_ParseInt_10_at64_syntax Tryd.laysC174 s (by omega) h e1 w h8 (.inr he1)).mono ?_
   rintro e w' ⟨N, rfl, _, _, hb⟩
   exact ⟨⟨_, _, rfl, .inr ⟨⟨N, rfl⟩, rfl⟩⟩, hb⟩
 · refine (Tryd.strconv_ParseInt_10_at64_range s (by omega) h e2 w h9 (.inr he2)).mono ?_
   rintro e w' ⟨N, rfl, _, _, hb⟩
   exact ⟨⟨_, _, rfl, .inr ⟨⟨N, rfl⟩, rfl⟩⟩, hb⟩
structure Three (w : World) (b : Nat) : Prop where
 c0 : w.cell? ⟨b, 0, none⟩ = some (.int .i64 0)
 c1 : w.cell? ⟨b + 1, 0, none⟩ = some (.int .i64 0)
 c2 : w.cell? ⟨b + 1 + 1, 0, none⟩ = some (.int .i64 0)
 f0 : w.frozen? ⟨b, 0, none⟩ = false
 f1 : w.frozen? ⟨b + 1, 0, none⟩ = false
 f2 : w.frozen? ⟨b + 1 + 1, 0, none⟩ = false
 l2 : b + 1 + 1 < w.heap.size
theorem three_of {w w' : World} {t1 t2 t3 : TypeId} (hb : Below (((w.alloc (Obj.cells #[Value.int IntKind.i64 0] t1)).alloc (Obj.cells #[Value.int IntKind.i64 0] t2)).alloc (Obj.cells #[Value.int IntKind.i64 0] t3)).heap.size (((w.alloc (Obj.cells #[Value.int IntKind.i64 0] t1)).alloc (Obj.cells #[Value.int IntKind.i64 0] t2)).alloc (Obj.cells #[Value.int IntKind.i64 0] t3)) w') : Three w' w.heap.size := by
 have q := bcell hb
 have hz := hb.size
 simp only [World.size_alloc] at hz q
 refine ⟨?_, ?_, ?_, ?_, ?_, ?_, by omega⟩
 · rw [q.1 _ _ (by omega)]; simp [go_sem]
 · rw [q.1 _ _ (by omega)]; simp [go_sem]
 · rw [q.1 _ _ (by omega)]; simp [go_sem]
 · rw [q.2 _ _ (by omega)]; simp [go_sem]
 · rw [q.2 _ _ (by omega)]; simp [go_sem]
 · rw [q.2 _ _ (by omega)]; simp [go_sem]
theorem below_three {w w' : World} {t1 t2 t3 : TypeId} {x y z : Value} {o : Obj} (hb : Below (((w.alloc (Obj.cells #[Value.int IntKind.i64 0] t1)).alloc (Obj.cells #[Value.int IntKind.i64 0] t2)).alloc (Obj.cells #[Value.int IntKind.i64 0] t3)).heap.size (((w.alloc (Obj.cells #[Value.int IntKind.i64 0] t1)).alloc (Obj.cells #[Value.int IntKind.i64 0] t2)).alloc (Obj.cells #[Value.int IntKind.i64 0] t3)) w') :
   Below w.heap.size w ((((w'.setCell ⟨w.heap.size, 0, none⟩ x).setCell ⟨w.heap.size + 1, 0, none⟩ y).setCell ⟨w.heap.size + 1 + 1, 0, none⟩ z).alloc o) := by
 have hz := hb.size
 simp only [World.size_alloc] at hz
 have h1 : Below w.heap.size w w' := ((((Below.refl _ w).alloc (Nat.le_refl _) _).alloc (by simp) _).alloc (by first | (simp; omega) | simp) _).trans (hb.mono (by first | (simp; omega) | simp))
 exact (((h1.setCell (Nat.le_refl _) _).setCell (by simp) _).setCell (by first | (simp; omega) | simp) _).alloc (by first | (simp; omega) | simp) _
theorem wparse_any (s : ByteArray) (hs : s.size <= 8796093022207) (hne : 0 < s.size) (hd : ∀ (j : Nat) (h : j < s.size), isDigit s[j].toNat = true) (w : World) (e1 e2 : Value) (h8 : w.cell? ⟨1, 0, none⟩ = some e1) (h9 : w.cell? ⟨2, 0, none⟩ = some e2) (he1 : ∃ te pe, e1 = .iface te pe) (he2 : ∃ te pe, e2 = .iface te pe) :
   Calls Tryd.prog 55 #[.string s] w fun e w' => e = .returned (.tuple #[.int .i64 (numOf s).1, .int .i64 (numOf s).2, .int .i64 0]) /\ Below w.heap.size w w' := by
 have hmf : ∀ (fn : Fn) (first cap : Array Value) (w : World), (Instr.makeFunc fn first cap).run Tryd.prog w = .ok (.func fn first cap) w := fun _ _ _ _ => rfl
 have hd0 : isDigit (s[0]).toNat = true := hd 0 hne
 have h45 : (((s[0]).toNat : Int) == 45) = false := by
   rw [beq_eq_false_iff_ne]
   simp only [isDigit, Bool.and_eq_true, decide_eq_true_eq] at hd0
   omega
 have hlt9 : 2 < w.heap.size := by
   unfold World.cell? at h9
   rcases Nat.lt_or_ge 2 w.heap.size with h | h
   · exact h
   · rw [Array.getElem?_eq_none h] at h9; cases h9
 clear hd0
 go_enter_defers Tryd.func55, Tryd.ntmps55
 go_wp2
 go_loop [5] (fun c => ∃ k : Nat, k <= s.size /\ c = .int .i64 k) (fun c => s.size - (intOf c).toNat)
 case atStart => exact ⟨0, Nat.zero_le _, rfl⟩
 case round =>
   obtain ⟨k, hk, rfl⟩ := hrel
   by_cases hlt : k < s.size
   · have hdk : isDigit (s[k]).toNat = true := hd k hlt
     have f1 : decide (((s[k]).toNat : Int) < 48) = false := by
       simp only [isDigit, Bool.and_eq_true, decide_eq_true_eq] at hdk
       simp; omega
     have f2 : decide (57 < ((s[k]).toNat : Int)) = false := by
       simp only [isDigit, Bool.and_eq_true, decide_eq_true_eq] at hdk
       simp; omega
     clear hdk
     go_wp2
     go_round
     case rel => exact ⟨k + 1, by omega, by go_num⟩
     case measure => simp [intOf]; omega
   · have hks : k = s.size := by omega
     subst hks
     have hz : ((s.size : Int) == 0) = false := by rw [beq_eq_false_iff_ne]; omega
     have h8' : (((w.alloc (Obj.cells #[Value.int IntKind.i64 0] 2)).alloc (Obj.cells #[Value.int IntKind.i64 0] 29)).alloc (Obj.cells #[Value.int IntKind.i64 0] 3)).cell? ⟨1, 0, none⟩ = some e1 := by
       rw [World.cell?_alloc_past _ _ _ (by first | (simp; omega) | simp), World.cell?_alloc_past _ _ _ (by first | (simp; omega) | simp), World.cell?_alloc_past _ _ _ (by omega)]; exact h8
     have h9' : (((w.alloc (Obj.cells #[Value.int IntKind.i64 0] 2)).alloc (Obj.cells #[Value.int IntKind.i64 0] 29)).alloc (Obj.cells #[Value.int IntKind.i64 0] 3)).cell? ⟨2, 0, none⟩ = some e2 := by
       rw [World.cell?_alloc_past _ _ _ (by first | (simp; omega) | simp), World.cell?_alloc_past _ _ _ (by first | (simp; omega) | simp), World.cell?_alloc_past _ _ _ (by omega)]; exact h9
     have P := parseInt_any s hs _ e1 e2 h8' h9' he1 he2
     clear h8' h9'
     go_wp2_with (go_at_call 63; refine P.mono ?_; rintro e w' ⟨⟨v, er, rfl, (⟨rfl, hn⟩ | ⟨⟨N, rfl⟩, hn⟩)⟩, hb⟩ <;> (have q0 := (three_of hb).c0; have q1 := (three_of hb).c1; have q2 := (three_of hb).c2; have q3 := (three_of hb).f0; have q4 := (three_of hb).f1; have q5 := (three_of hb).f2))
     · have l1 := (three_of hb).l2
       refine leaves_cons (f := 62) (args := #[.pointer (some ⟨w.heap.size, 0, none⟩), .pointer (some ⟨w.heap.size + 1, 0, none⟩), .pointer (some ⟨w.heap.size + 1 + 1, 0, none⟩)]) (by simp) (by simp [go_sem]) ?_
       refine (wcatch_idle _ _ _ _).mono ?_
       rintro e u' w'' ⟨rfl, rfl, rfl⟩
       have l2 : w.heap.size < w'.heap.size := by omega
       have l3 : w.heap.size + 1 < w'.heap.size := by omega
       simp [Leaves, settle, results, Tryd.results55, go_sem, hn, q0, q1, q2, l1, l2, l3]
       exact below_three hb
     · have l1 := (three_of hb).l2
       refine leaves_cons (f := 62) (args := #[.pointer (some ⟨w.heap.size, 0, none⟩), .pointer (some ⟨w.heap.size + 1, 0, none⟩), .pointer (some ⟨w.heap.size + 1 + 1, 0, none⟩)]) (by simp) (by simp [go_sem]) ?_
       refine (wcatch_panicking w.heap.size 11 0 w' q0 q1 q2 q3 q4 q5 l1).mono ?_
       rintro e u' w'' ⟨rfl, rfl, rfl⟩
       have l2 : w.heap.size < w'.heap.size := by omega
       have l3 : w.heap.size + 1 < w'.heap.size := by omega
       simp [Leaves, settle, results, Tryd.results55, go_sem, hn, q0, q1, q2, l1, l2, l3]
       exact (below_three hb).drew
end Go.Proofs.YtonmcakdofbjiaaDoor
namespace Go.Proofs.YtonmcakdofbjiaaDoor
open Go.RowKit
/-! ### plain functions -/
def uptoF (pred : Int -> Bool) (s : ByteArray) : Nat -> Nat -> Nat
 | 0, i => i
 | f + 1, i => if h : i < s.size then (if pred (s[i]).toNat then uptoF pred s f (i + 1) else i) else i
def upto (pred : Int -> Bool) (s : ByteArray) (i : Nat) : Nat := uptoF pred s (s.size - i) i
theorem uptoF_ge (pred : Int -> Bool) (s : ByteArray) : ∀ f i, i <= uptoF pred s f i := by
 intro f
 induction f with
 | zero => intro i; exact Nat.le_refl _
 | succ f ih =>
   intro i
   unfold uptoF
   split
   · split
     · exact Nat.le_trans (Nat.le_succ i) (ih (i + 1))
     · exact Nat.le_refl _
   · exact Nat.le_refl _
theorem upto_of {pred : Int -> Bool} {s : ByteArray} {i k : Nat} (h : Upto pred s i k) : k = upto pred s i := by
 obtain ⟨h1, h2, h3, h4⟩ := h
 have key : ∀ f i, i <= k -> k - i <= f -> (∀ (j : Nat) (h : j < s.size), i <= j -> j < k -> pred s[j].toNat = true) -> uptoF pred s f i = k := by
   intro f
   induction f with
   | zero => intro i a b _; unfold uptoF; omega
   | succ f ih =>
     intro i a b c
     unfold uptoF
     by_cases e : i = k
     · subst e
       split
       · rename_i hlt; rw [if_neg (by simp [h4 hlt])]
       · rfl
     · have hlt : i < s.size := by omega
       rw [dif_pos hlt, if_pos (c i hlt (Nat.le_refl _) (by omega))]
       exact ih (i + 1) (by omega) (by omega) fun j hj x y => c j hj (by omega) y
 exact (key (s.size - i) i h1 (by omega) h3).symm
theorem upto_spec (pred : Int -> Bool) (s : ByteArray) (i : Nat) (hi : i <= s.size) : Upto pred s i (upto pred s i) := by
 have key : ∀ f i, i <= s.size -> s.size - i <= f -> Upto pred s i (uptoF pred s f i) := by
   intro f
   induction f with
   | zero =>
     intro i a b
     unfold uptoF
     exact ⟨Nat.le_refl _, a, fun j _ h1 h2 => by omega, fun h => by omega⟩
   | succ f ih =>
     intro i a b
     unfold uptoF
     split
     · rename_i hlt
       split
       · rename_i hp
         obtain ⟨x1, x2, x3, x4⟩ := ih (i + 1) (by omega) (by omega)
         refine ⟨by omega, x2, fun j hj h1 h2 => ?_, x4⟩
         by_cases e : j = i
         · subst e; exact hp
         · exact x3 j hj (by omega) h2
       · rename_i hp
         exact ⟨Nat.le_refl _, a, fun j _ h1 h2 => by omega, fun _ => by simpa using hp⟩
     · exact ⟨Nat.le_refl _, a, fun j _ h1 h2 => by omega, fun h => absurd h (by assumption)⟩
 exact key _ i hi (Nat.le_refl _)
def skipF (s : ByteArray) : Nat -> Nat -> Nat
 | 0, i => i
 | f + 1, i => if h : i < s.size then (if isBlank (s[i]).toNat then skipF s f (i + 1) else if (s[i]).toNat = 35 then skipF s f (upto isLine s i) else i) else i
def skipTo (s : ByteArray) (i : Nat) : Nat := skipF s (s.size - i) i
theorem skip_of {s : ByteArray} {i k : Nat} (h : Skips s i k) (hk : k <= s.size) (hend : ∀ h : k < s.size, isBlank (s[k]).toNat = false /\ (s[k]).toNat ≠ 35) : ∀ f, s.size - i <= f -> i <= k /\ skipF s f i = k := by
 induction h with
 | here k =>
   intro f hf
   refine ⟨Nat.le_refl _, ?_⟩
   cases f with
   | zero => rfl
   | succ f =>
     unfold skipF
     split
     · rename_i hlt
       obtain ⟨a, b⟩ := hend hlt
       rw [if_neg (by simp [a]), if_neg b]
     · rfl
 | @blank i k hlt hb _ ih =>
   intro f hf
   cases f with
   | zero => omega
   | succ f =>
     obtain ⟨a, b⟩ := ih hk hend f (by omega)
     unfold skipF
     rw [dif_pos hlt, if_pos hb]
     exact ⟨by omega, b⟩
 | @remark i j k hlt hb hj _ ih =>
   intro f hf
   cases f with
   | zero => omega
   | succ f =>
     have hij : i < j := by
       rcases Nat.lt_or_ge i j with h | h
       · exact h
       · exfalso
         have e : i = j := Nat.le_antisymm hj.1 h
         subst e
         have := hj.2.2.2 hlt
         simp [isLine, hb] at this
     obtain ⟨a, b⟩ := ih hk hend f (by omega)
     unfold skipF
     rw [dif_pos hlt, if_neg (by simp [isBlank, hb]), if_pos hb, <- upto_of hj]
     exact ⟨by omega, b⟩
structure Item where
 kind : Int
 text : ByteArray
 num : Int
 pos : Int
 code : Int
 place : Int
def Item.v (x : Item) : Value := itemV x.kind x.text x.num x.pos x.code x.place
def noItem : Item := ⟨0, ⟨#[]⟩, 0, 0, 0, 0⟩
def wordAt (s : ByteArray) (i : Nat) : Item := if 16 < upto isAlnum s i - i then ⟨0, ⟨#[]⟩, 0, 0, 21, i⟩ else ⟨0, s.extract i (upto isAlnum s i), 0, i, 0, 0⟩
def letterAt (s : ByteArray) (i : Nat) : Bool := if h : i < s.size then isLetter (s[i]).toNat else false
def digitAt (s : ByteArray) (i : Nat) : Bool := if h : i < s.size then isDigit (s[i]).toNat else false
def numAt (s : ByteArray) (i : Nat) : Item :=
 if (numOf (s.extract i (upto isDigit s i))).2 ≠ 0 \/ letterAt s (upto isDigit s i) = true then ⟨0, ⟨#[]⟩, 0, 0, 22, i⟩ else ⟨1, s.extract i (upto isDigit s i), (numOf (s.extract i (upto isDigit s i))).1, i, 0, 0⟩
def itemAt (s : ByteArray) (i : Nat) : Item :=
 if letterAt s i then wordAt s i else if digitAt s i then numAt s i else if (signAt s i).toList.isEmpty then ⟨0, ⟨#[]⟩, 0, 0, 20, i⟩ else ⟨2, signAt s i, 0, i, 0, 0⟩
theorem afterD (s : ByteArray) (i : Nat) (w : World) (hi : i <= s.size) (hs : s.size <= 8796093022207) :
   Calls Tryd.prog 51 #[.string s, .int .i64 i, .func (.func 53) #[] #[]] w fun e w' => e = .returned (.int .i64 (upto isDigit s i)) /\ w' = w :=
 (after_digit s i w hi hs).mono fun e w' ⟨⟨k, hk, he⟩, hw⟩ => ⟨by rw [he, upto_of hk], hw⟩
theorem extract_get (s : ByteArray) (i k j : Nat) (hk : k <= s.size) (h : j < (s.extract i k).size) : ∃ h2 : i + j < s.size, (s.extract i k)[j] = s[i + j] := by
 have hz : (s.extract i k).size = k - i := by simp [ByteArray.size_extract]; omega
 refine ⟨by omega, ?_⟩
 simp [ByteArray.getElem_extract]
theorem k1_any (s : ByteArray) (i : Nat) (b : Nat) (w : World) (hb : w.cell? ⟨b, 0, none⟩ = some (.string s)) (hi : i < s.size) (hs : s.size <= 8796093022207) :
   Calls Tryd.prog 49 #[.int .i64 i, .pointer (some ⟨b, 0, none⟩)] w fun e w' => e = .returned (.tuple #[(if letterAt s i then wordAt s i else noItem).v, .bool (letterAt s i)]) /\ Below w.heap.size w w' := by
 refine (kind1_any s i b w hb hi hs).mono ?_
 rintro e w' ⟨h, hb⟩
 refine ⟨?_, hb⟩
 rcases h with ⟨h1, rfl⟩ | ⟨h1, k, hk, ⟨h2, rfl⟩ | ⟨h2, rfl⟩⟩
 · simp [letterAt, hi, h1, noItem, Item.v]
 · have := upto_of hk
   subst this
   simp [letterAt, hi, h1, Item.v, wordAt, h2]
 · have := upto_of hk
   subst this
   have : ¬ 16 < upto isAlnum s i - i := by omega
   simp [letterAt, hi, h1, Item.v, wordAt, this]
structure Six (w : World) (n : Nat) (x0 x1 x2 x3 x4 x5 : Value) : Prop where
 c0 : w.cell? ⟨n, 0, none⟩ = some x0
 c1 : w.cell? ⟨n, 1, none⟩ = some x1
 c2 : w.cell? ⟨n, 2, none⟩ = some x2
 c3 : w.cell? ⟨n, 3, none⟩ = some x3
 c4 : w.cell? ⟨n, 4, none⟩ = some x4
 c5 : w.cell? ⟨n, 5, none⟩ = some x5
 f0 : w.frozen? ⟨n, 0, none⟩ = false
 f1 : w.frozen? ⟨n, 1, none⟩ = false
 f2 : w.frozen? ⟨n, 2, none⟩ = false
 f3 : w.frozen? ⟨n, 3, none⟩ = false
 f4 : w.frozen? ⟨n, 4, none⟩ = false
 f5 : w.frozen? ⟨n, 5, none⟩ = false
theorem six_new (w : World) (t : TypeId) (x0 x1 x2 x3 x4 x5 : Value) : Six (w.alloc (.cells #[x0, x1, x2, x3, x4, x5] t)) w.heap.size x0 x1 x2 x3 x4 x5 := by
 constructor <;> simp [go_sem]
theorem Six.later {w w' : World} {n B : Nat} {x0 x1 x2 x3 x4 x5 : Value} (h : Six w n x0 x1 x2 x3 x4 x5) (hb : Below B w w') (hn : n < B) : Six w' n x0 x1 x2 x3 x4 x5 :=
 ⟨(hb.cell (p := ⟨n, 0, none⟩) hn).trans h.c0, (hb.cell (p := ⟨n, 1, none⟩) hn).trans h.c1, (hb.cell (p := ⟨n, 2, none⟩) hn).trans h.c2, (hb.cell (p := ⟨n, 3, none⟩) hn).trans h.c3, (hb.cell (p := ⟨n, 4, none⟩) hn).trans h.c4, (hb.cell (p := ⟨n, 5, none⟩) hn).trans h.c5,
   (hb.frozen (p := ⟨n, 0, none⟩) hn).trans h.f0, (hb.frozen (p := ⟨n, 1, none⟩) hn).trans h.f1, (hb.frozen (p := ⟨n, 2, none⟩) hn).trans h.f2, (hb.frozen (p := ⟨n, 3, none⟩) hn).trans h.f3, (hb.frozen (p := ⟨n, 4, none⟩) hn).trans h.f4, (hb.frozen (p := ⟨n, 5, none⟩) hn).trans h.f5⟩
theorem itemB {w w' : World} {b : Nat} {sv : Value} {t : TypeId} {x0 x1 x2 x3 x4 x5 : Value} (hbb : Below (w.alloc (.cells #[x0, x1, x2, x3, x4, x5] t)).heap.size (w.alloc (.cells #[x0, x1, x2, x3, x4, x5] t)) w') (hbl : b < w.heap.size) (hb : w.cell? ⟨b, 0, none⟩ = some sv) :
   w'.cell? ⟨b, 0, none⟩ = some sv /\ Six w' w.heap.size x0 x1 x2 x3 x4 x5 /\ w.heap.size < w'.heap.size /\ Below w.heap.size w w' /\ b < w'.heap.size := by
 have hz := hbb.size
 have q := bcell hbb
 simp only [World.size_alloc] at hz q
 refine ⟨?_, (six_new w t x0 x1 x2 x3 x4 x5).later hbb (by simp), by omega, ((Below.refl _ w).alloc (Nat.le_refl _) _).trans (hbb.mono (by simp)), by omega⟩
 rw [q.1 _ _ (by omega), World.cell?_alloc_past _ _ _ hbl]; exact hb
theorem below_six {w w' : World} {x0 x1 x2 x3 x4 x5 : Value} (h : Below w.heap.size w w') : Below w.heap.size w ((((((w'.setCell ⟨w.heap.size, 0, none⟩ x0).setCell ⟨w.heap.size, 1, none⟩ x1).setCell ⟨w.heap.size, 2, none⟩ x2).setCell ⟨w.heap.size, 3, none⟩ x3).setCell ⟨w.heap.size, 4, none⟩ x4).setCell ⟨w.heap.size, 5, none⟩ x5) :=
 (((((h.setCell (Nat.le_refl _) _).setCell (Nat.le_refl _) _).setCell (Nat.le_refl _) _).setCell (Nat.le_refl _) _).setCell (Nat.le_refl _) _).setCell (Nat.le_refl _) _
theorem k2_any (s : ByteArray) (i : Nat) (b : Nat) (w : World) (hb : w.cell? ⟨b, 0, none⟩ = some (.string s)) (hi : i < s.size) (hs : s.size <= 8796093022207) (e1 e2 : Value) (h8 : w.cell? ⟨1, 0, none⟩ = some e1) (h9 : w.cell? ⟨2, 0, none⟩ = some e2) (he1 : ∃ te pe, e1 = .iface te pe) (he2 : ∃ te pe, e2 = .iface te pe) :
   Calls Tryd.prog 54 #[.int .i64 i, .pointer (some ⟨b, 0, none⟩)] w fun e w' => e = .returned (.tuple #[(if digitAt s i then numAt s i else noItem).v, .bool (digitAt s i)]) /\ Below w.heap.size w w' := by
 have hbl : b < w.heap.size := by
   unfold World.cell? at hb
   rcases Nat.lt_or_ge b w.heap.size with h | h
   · exact h
   · rw [Array.getElem?_eq_none h] at hb; cases hb
 have hlt9 : 2 < w.heap.size := by
   unfold World.cell? at h9
   rcases Nat.lt_or_ge 2 w.heap.size with h | h
   · exact h
   · rw [Array.getElem?_eq_none h] at h9; cases h9
 by_cases hd : isDigit (s[i]).toNat = true
 · have hdi : digitAt s i = true := by simp [digitAt, hi, hd]
   rw [if_pos hdi, hdi]
   clear hdi
   have hU := upto_spec isDigit s i (by omega)
   unfold numAt
   have A := afterD s i
   generalize upto isDigit s i = k at hU A ⊢
   obtain ⟨x1, x2, x3, x4⟩ := hU
   have hik : i < k := by
     rcases Nat.lt_or_ge i k with h | h
     · exact h
     · have e : k = i := by omega
       subst e
       rw [x4 hi] at hd
       cases hd
   have hz : (s.extract i k).size = k - i := by simp [ByteArray.size_extract]; omega
   have W := fun w h8 h9 => wparse_any (s.extract i k) (by omega) (by omega) (fun j hj => by
     obtain ⟨h2, e⟩ := extract_get s i k j x2 hj
     rw [e]
     exact x3 (i + j) h2 (by omega) (by omega)) w e1 e2 h8 h9 he1 he2
   clear x3 x4
   have hL : letterAt s k = if h : k < s.size then isLetter (s[k]).toNat else false := rfl
   generalize numOf (s.extract i k) = nv at W ⊢
   obtain ⟨nv, ne⟩ := nv
   dsimp only at W ⊢
   by_cases hne : ne = 0
   · subst hne
     by_cases hlt : k < s.size
     · by_cases hl : isLetter (s[k]).toNat = true
       · rw [if_pos (.inr (by rw [hL, dif_pos hlt]; exact hl))]
         clear hL
         go_enter Tryd.func54, Tryd.ntmps54
         go_wp2_with (first | (go_at_call 53; refine (isDigit_any _ _).mono ?_; rintro e w' ⟨rfl, rfl⟩) | (go_at_call 51; refine (A _ (by omega) hs).mono ?_; rintro e w' ⟨rfl, rfl⟩) | (go_at_call 50; refine (letter_any _ _).mono ?_; rintro e w' ⟨rfl, rfl⟩) | (go_at_call 55; refine (W _ (by rw [World.cell?_alloc_past _ _ _ (by omega)]; exact h8) (by rw [World.cell?_alloc_past _ _ _ (by omega)]; exact h9)).mono ?_; rintro e w' ⟨rfl, hbb⟩; have q0 := (itemB hbb hbl hb).1; have q1 := (itemB hbb hbl hb).2.1; have z0 := q1.c0; have z1 := q1.c1; have z2 := q1.c2; have z3 := q1.c3; have z4 := q1.c4; have z5 := q1.c5; have g0 := q1.f0; have g1 := q1.f1; have g2 := q1.f2; have g3 := q1.f3; have g4 := q1.f4; have g5 := q1.f5; clear q1; have q2 := (itemB hbb hbl hb).2.2.1; have q3 := (itemB hbb hbl hb).2.2.2.1; have q4 := (itemB hbb hbl hb).2.2.2.2))
         refine bodyPost_ret (v := .tuple #[(⟨0, ⟨#[]⟩, 0, 0, 22, i⟩ : Item).v, .bool true]) (by simp [results, Tryd.f54, itemV, Item.v, go_sem, q2, z0, z1, z2, z3, z4, z5]; try rfl) rfl ?_
         exact ⟨rfl, below_six q3⟩
       · have hl' : isLetter (s[k]).toNat = false := by simpa using hl
         rw [if_neg (by rw [hL, dif_pos hlt, hl']; simp)]
         clear hL hl
         go_enter Tryd.func54, Tryd.ntmps54
         go_wp2_with (first | (go_at_call 53; refine (isDigit_any _ _).mono ?_; rintro e w' ⟨rfl, rfl⟩) | (go_at_call 51; refine (A _ (by omega) hs).mono ?_; rintro e w' ⟨rfl, rfl⟩) | (go_at_call 50; refine (letter_any _ _).mono ?_; rintro e w' ⟨rfl, rfl⟩) | (go_at_call 55; refine (W _ (by rw [World.cell?_alloc_past _ _ _ (by omega)]; exact h8) (by rw [World.cell?_alloc_past _ _ _ (by omega)]; exact h9)).mono ?_; rintro e w' ⟨rfl, hbb⟩; have q0 := (itemB hbb hbl hb).1; have q1 := (itemB hbb hbl hb).2.1; have z0 := q1.c0; have z1 := q1.c1; have z2 := q1.c2; have z3 := q1.c3; have z4 := q1.c4; have z5 := q1.c5; have g0 := q1.f0; have g1 := q1.f1; have g2 := q1.f2; have g3 := q1.f3; have g4 := q1.f4; have g5 := q1.f5; clear q1; have q2 := (itemB hbb hbl hb).2.2.1; have q3 := (itemB hbb hbl hb).2.2.2.1; have q4 := (itemB hbb hbl hb).2.2.2.2))
         refine bodyPost_ret (v := .tuple #[(⟨1, s.extract i k, nv, i, 0, 0⟩ : Item).v, .bool true]) (by simp [results, Tryd.f54, itemV, Item.v, go_sem, q2, z0, z1, z2, z3, z4, z5]; try rfl) rfl ?_
         exact ⟨rfl, below_six q3⟩
     · rw [if_neg (by rw [hL, dif_neg hlt]; simp)]
       clear hL
       go_enter Tryd.func54, Tryd.ntmps54
       go_wp2_with (first | (go_at_call 53; refine (isDigit_any _ _).mono ?_; rintro e w' ⟨rfl, rfl⟩) | (go_at_call 51; refine (A _ (by omega) hs).mono ?_; rintro e w' ⟨rfl, rfl⟩) | (go_at_call 50; refine (letter_any _ _).mono ?_; rintro e w' ⟨rfl, rfl⟩) | (go_at_call 55; refine (W _ (by rw [World.cell?_alloc_past _ _ _ (by omega)]; exact h8) (by rw [World.cell?_alloc_past _ _ _ (by omega)]; exact h9)).mono ?_; rintro e w' ⟨rfl, hbb⟩; have q0 := (itemB hbb hbl hb).1; have q1 := (itemB hbb hbl hb).2.1; have z0 := q1.c0; have z1 := q1.c1; have z2 := q1.c2; have z3 := q1.c3; have z4 := q1.c4; have z5 := q1.c5; have g0 := q1.f0; have g1 := q1.f1; have g2 := q1.f2; have g3 := q1.f3; have g4 := q1.f4; have g5 := q1.f5; clear q1; have q2 := (itemB hbb hbl hb).2.2.1; have q3 := (itemB hbb hbl hb).2.2.2.1; have q4 := (itemB hbb hbl hb).2.2.2.2))
       refine bodyPost_ret (v := .tuple #[(⟨1, s.extract i k, nv, i, 0, 0⟩ : Item).v, .bool true]) (by simp [results, Tryd.f54, itemV, Item.v, go_sem, q2, z0, z1, z2, z3, z4, z5]; try rfl) rfl ?_
       exact ⟨rfl, below_six q3⟩
   · have z1' : (ne == 0) = false := by rw [beq_eq_false_iff_ne]; exact hne
     have z2' : (ne != 0) = true := by simp [hne]
     rw [if_pos (.inl hne)]
     clear hL hne
     go_enter Tryd.func54, Tryd.ntmps54
     go_wp2_with (first | (go_at_call 53; refine (isDigit_any _ _).mono ?_; rintro e w' ⟨rfl, rfl⟩) | (go_at_call 51; refine (A _ (by omega) hs).mono ?_; rintro e w' ⟨rfl, rfl⟩) | (go_at_call 50; refine (letter_any _ _).mono ?_; rintro e w' ⟨rfl, rfl⟩) | (go_at_call 55; refine (W _ (by rw [World.cell?_alloc_past _ _ _ (by omega)]; exact h8) (by rw [World.cell?_alloc_past _ _ _ (by omega)]; exact h9)).mono ?_; rintro e w' ⟨rfl, hbb⟩; have q0 := (itemB hbb hbl hb).1; have q1 := (itemB hbb hbl hb).2.1; have z0 := q1.c0; have z1 := q1.c1; have z2 := q1.c2; have z3 := q1.c3; have z4 := q1.c4; have z5 := q1.c5; have g0 := q1.f0; have g1 := q1.f1; have g2 := q1.f2; have g3 := q1.f3; have g4 := q1.f4; have g5 := q1.f5; clear q1; have q2 := (itemB hbb hbl hb).2.2.1; have q3 := (itemB hbb hbl hb).2.2.2.1; have q4 := (itemB hbb hbl hb).2.2.2.2))
     refine bodyPost_ret (v := .tuple #[(⟨0, ⟨#[]⟩, 0, 0, 22, i⟩ : Item).v, .bool true]) (by simp [results, Tryd.f54, itemV, Item.v, go_sem, q2, z0, z1, z2, z3, z4, z5]; try rfl) rfl ?_
     exact ⟨rfl, below_six q3⟩
 · have hdi : digitAt s i = false := by simp [digitAt, hi]; simpa using hd
   rw [hdi]
   simp only [Bool.false_eq_true, if_false]
   have hd' : isDigit (s[i]).toNat = false := by simpa using hd
   clear hdi hd
   go_enter Tryd.func54, Tryd.ntmps54
   go_wp2_with (first | (go_at_call 53; refine (isDigit_any _ _).mono ?_; rintro e w' ⟨rfl, rfl⟩))
   refine bodyPost_ret (v := .tuple #[noItem.v, .bool false]) (by simp [results, Tryd.f54, itemV, noItem, Item.v, go_sem]; try rfl) rfl ?_
   exact ⟨rfl, by first | exact (Below.refl _ w).alloc (Nat.le_refl _) _ | exact ((Below.refl _ w).alloc (Nat.le_refl _) _).setCell (Nat.le_refl _) _⟩
end Go.Proofs.YtonmcakdofbjiaaDoor
