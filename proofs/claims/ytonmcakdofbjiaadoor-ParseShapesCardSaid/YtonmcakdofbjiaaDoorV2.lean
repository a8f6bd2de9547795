/-
  The parts: base Bsd2
-/
import Derived.Test.YtonmcakdofbjiaaDoorV1
import Derived.Laws.Sem
set_option linter.unusedVariables false
set_option linter.unusedSimpArgs false
set_option linter.unusedSectionVars false
set_option linter.unnecessarySimpa false
set_option maxRecDepth 100000
set_option maxHeartbeats 8000000
namespace Go.Bsd
variable {P : Program}
abbrev Any {α : Type} (P : Program) (s : Sem α) : Prop := Safe P (fun _ => True) 0 s
@[simp] theorem any_pure {α : Type} (a : α) : Any P (pure a : Sem α) := ⟨rfl, trivial⟩
theorem any_bind {α β : Type} {f : α -> Sem β} {s : Sem α} (h : Any P s) (hf : ∀ a, Any P (f a)) : Any P (s >>= f) := Safe.bnd' h hf
theorem any_map {α β : Type} {f : α -> β} {s : Sem α} (h : Any P s) : Any P (f <$> s) := any_bind h fun _ => any_pure _
@[simp] theorem any_stuck {α : Type} (s : String) : Any P (stuck s : Sem α) := ⟨by simp, .inl rfl⟩
@[simp] theorem any_unsupported {α : Type} (u : Unsupported) : Any P (unsupported u : Sem α) := ⟨by simp, .inl rfl⟩
@[simp] theorem any_goPanic {α : Type} (v : Value) : Any P (goPanic v : Sem α) := ⟨by simp, .inl rfl⟩
@[simp] theorem any_throw {α : Type} (s : String) : Any P (throw s : Sem α) := ⟨by simp, .inl rfl⟩
@[simp] theorem any_load (a : Addr) (m : Mode) : Any P (load a m) := fun _ => ⟨rfl, trivial⟩
@[simp] theorem any_store (a : Addr) (v : Value) (m : Mode) : Any P (store a v m) := ⟨rfl, trivial⟩
@[simp] theorem any_newObj (o : Obj) : Any P (newObj o) := fun _ => ⟨rfl, trivial⟩
@[simp] theorem any_shape (r : Nat) : Any P (shape r) := fun _ => ⟨rfl, trivial⟩
@[simp] theorem any_freeze (a : Addr) (n : Nat) : Any P (freeze a n) := ⟨rfl, trivial⟩
@[simp] theorem any_frozen (a : Addr) : Any P (frozen a) := fun _ => ⟨rfl, trivial⟩
@[simp] theorem any_getObj (r : Nat) : Any P (getObj r) := fun _ => ⟨rfl, trivial⟩
@[simp] theorem any_setObj (r : Nat) (o : Obj) : Any P (setObj r o) := ⟨rfl, trivial⟩
@[simp] theorem any_choose (q : Question) : Any P (choose q) := fun _ => ⟨rfl, trivial⟩
@[simp] theorem any_program : Any P program := ⟨rfl, trivial⟩
@[simp] theorem any_noRoom : Any P (mark .noRoom) := .inr (.inr ⟨by simp, by simp, rfl, trivial⟩)
@[simp] theorem any_extern (f : FuncId) : Any P (mark (.extern f)) := .inr (.inr ⟨by simp, by simp, rfl, trivial⟩)
theorem any_forIn_list {α β : Type} {f : α -> β -> Sem (ForInStep β)} (hf : ∀ a b, Any P (f a b)) : ∀ (l : List α) (b : β), Any P (forIn l b f)
 | [], b => any_pure b
 | a :: l, b => by
   rw [List.forIn_cons]
   refine any_bind (hf a b) fun x => ?_
   cases x with
   | done b => exact any_pure b
   | yield b => exact any_forIn_list hf l b
theorem any_forIn_range {β : Type} {f : Nat -> β -> Sem (ForInStep β)} (hf : ∀ a b, Any P (f a b)) (r : Std.Legacy.Range) (b : β) : Any P (forIn r b f) := by
 rw [Std.Legacy.Range.forIn_eq_forIn_range']
 exact any_forIn_list hf _ _
theorem any_forIn_array {α β : Type} {f : α -> β -> Sem (ForInStep β)} (hf : ∀ a b, Any P (f a b)) (l : Array α) (b : β) : Any P (forIn l b f) := by
 rw [<- Array.forIn_toList]
 exact any_forIn_list hf _ _
theorem any_ite {α : Type} {c : Prop} [Decidable c] {a b : Sem α} (ha : c -> Any P a) (hb : ¬ c -> Any P b) : Any P (if c then a else b) := by
 split
 · exact ha ‹_›
 · exact hb ‹_›
theorem any_foldlM {α β : Type} {f : β -> α -> Sem β} (hf : ∀ b a, Any P (f b a)) : ∀ (l : List α) (b : β), Any P (l.foldlM f b)
 | [], b => any_pure b
 | a :: l, b => by rw [List.foldlM_cons]; exact any_bind (hf b a) fun _ => any_foldlM hf l _
theorem any_mapM_list {α β : Type} {f : α -> Sem β} (hf : ∀ a, Any P (f a)) : ∀ (l : List α), Any P (l.mapM f)
 | [] => by rw [List.mapM_nil]; exact any_pure _
 | a :: l => by rw [List.mapM_cons]; exact any_bind (hf a) fun _ => any_bind (any_mapM_list hf l) fun _ => any_pure _
theorem any_mapM_array {α β : Type} {f : α -> Sem β} (hf : ∀ a, Any P (f a)) (l : Array α) : Any P (l.mapM f) := by
 rw [Array.mapM_eq_mapM_toList]
 exact any_map (any_mapM_list hf _)
theorem any_forIn'_list {α β : Type} : ∀ (l : List α) (f : (a : α) -> a ∈ l -> β -> Sem (ForInStep β)), (∀ a h b, Any P (f a h b)) -> ∀ (b : β), Any P (forIn' l b f)
 | [], _, _, b => any_pure b
 | a :: l, f, hf, b => by
   rw [List.forIn'_cons]
   refine any_bind (hf a _ b) fun x => ?_
   cases x with
   | done b => exact any_pure b
   | yield b => exact any_forIn'_list l _ (fun a h b => hf a _ b) b
theorem any_forIn'_range {β : Type} (r : Std.Legacy.Range) (f : (a : Nat) -> a ∈ r -> β -> Sem (ForInStep β)) (hf : ∀ a h b, Any P (f a h b)) (b : β) : Any P (forIn' r b f) := by
 rw [Std.Legacy.Range.forIn'_eq_forIn'_range']
 exact any_forIn'_list _ _ (fun a h b => hf a _ b) b
attribute [local irreducible] Safe
@[simp] theorem any_underlying (t : TypeId) : Any P (underlying t) := by
 unfold underlying
 refine any_bind any_program fun _ => ?_
 split
 · exact any_pure _
 · exact any_stuck _
@[simp] theorem any_askRoom (bytes : Nat) : Any P (askRoom bytes) := by
 unfold askRoom
 repeat' first | (with_reducible refine any_bind ?_ (fun _ => ?_)) | (with_reducible refine any_map ?_) | (simp; done) | (split) | (with_reducible intro _) | (dsimp only) | (refine any_forIn_range (fun _ _ => ?_) _ _) | (refine any_forIn_list (fun _ _ => ?_) _ _) | (refine any_forIn_array (fun _ _ => ?_) _ _) | (refine any_foldlM (fun _ _ => ?_) _ _) | (refine any_mapM_array (fun _ => ?_) _) | (refine any_forIn'_range _ _ (fun _ _ _ => ?_) _)
@[simp] theorem any_viewAt (r : Nat) : Any P (viewAt r) := by
 unfold viewAt
 repeat' first | (with_reducible refine any_bind ?_ (fun _ => ?_)) | (with_reducible refine any_map ?_) | (simp; done) | (split) | (with_reducible intro _) | (dsimp only) | (refine any_forIn_range (fun _ _ => ?_) _ _) | (refine any_forIn_list (fun _ _ => ?_) _ _) | (refine any_forIn_array (fun _ _ => ?_) _ _) | (refine any_foldlM (fun _ _ => ?_) _ _) | (refine any_mapM_array (fun _ => ?_) _) | (refine any_forIn'_range _ _ (fun _ _ _ => ?_) _)
@[simp] theorem any_numberAt (r : Nat) : Any P (numberAt r) := by
 unfold numberAt
 repeat' first | (with_reducible refine any_bind ?_ (fun _ => ?_)) | (with_reducible refine any_map ?_) | (simp; done) | (split) | (with_reducible intro _) | (dsimp only) | (refine any_forIn_range (fun _ _ => ?_) _ _) | (refine any_forIn_list (fun _ _ => ?_) _ _) | (refine any_forIn_array (fun _ _ => ?_) _ _) | (refine any_foldlM (fun _ _ => ?_) _ _) | (refine any_mapM_array (fun _ => ?_) _) | (refine any_forIn'_range _ _ (fun _ _ _ => ?_) _)
@[simp] theorem any_cellsIn (r : Nat) : Any P (cellsIn r) := by
 unfold cellsIn
 repeat' first | (with_reducible refine any_bind ?_ (fun _ => ?_)) | (with_reducible refine any_map ?_) | (simp; done) | (split) | (with_reducible intro _) | (dsimp only) | (refine any_forIn_range (fun _ _ => ?_) _ _) | (refine any_forIn_list (fun _ _ => ?_) _ _) | (refine any_forIn_array (fun _ _ => ?_) _ _) | (refine any_foldlM (fun _ _ => ?_) _ _) | (refine any_mapM_array (fun _ => ?_) _) | (refine any_forIn'_range _ _ (fun _ _ _ => ?_) _)
@[simp] theorem any_asNumber (a : Addr) (lost : Bool) : Any P (asNumber a lost) := by
 unfold asNumber
 repeat' first | (with_reducible refine any_bind ?_ (fun _ => ?_)) | (with_reducible refine any_map ?_) | (simp; done) | (split) | (with_reducible intro _) | (dsimp only) | (refine any_forIn_range (fun _ _ => ?_) _ _) | (refine any_forIn_list (fun _ _ => ?_) _ _) | (refine any_forIn_array (fun _ _ => ?_) _ _) | (refine any_foldlM (fun _ _ => ?_) _ _) | (refine any_mapM_array (fun _ => ?_) _) | (refine any_forIn'_range _ _ (fun _ _ _ => ?_) _)
@[simp] theorem any_behindNumber (n : Addr) : Any P (behindNumber n) := by
 unfold behindNumber
 repeat' first | (with_reducible refine any_bind ?_ (fun _ => ?_)) | (with_reducible refine any_map ?_) | (simp; done) | (split) | (with_reducible intro _) | (dsimp only) | (refine any_forIn_range (fun _ _ => ?_) _ _) | (refine any_forIn_list (fun _ _ => ?_) _ _) | (refine any_forIn_array (fun _ _ => ?_) _ _) | (refine any_foldlM (fun _ _ => ?_) _ _) | (refine any_mapM_array (fun _ => ?_) _) | (refine any_forIn'_range _ _ (fun _ _ _ => ?_) _)
@[simp] theorem any_backFromNumber (n : Addr) : Any P (backFromNumber n) := by
 unfold backFromNumber
 repeat' first | (with_reducible refine any_bind ?_ (fun _ => ?_)) | (with_reducible refine any_map ?_) | (simp; done) | (split) | (with_reducible intro _) | (dsimp only) | (refine any_forIn_range (fun _ _ => ?_) _ _) | (refine any_forIn_list (fun _ _ => ?_) _ _) | (refine any_forIn_array (fun _ _ => ?_) _ _) | (refine any_foldlM (fun _ _ => ?_) _ _) | (refine any_mapM_array (fun _ => ?_) _) | (refine any_forIn'_range _ _ (fun _ _ _ => ?_) _)
@[simp] theorem any_noView (a : Addr) : Any P (noView a) := by
 unfold noView
 repeat' first | (with_reducible refine any_bind ?_ (fun _ => ?_)) | (with_reducible refine any_map ?_) | (simp; done) | (split) | (with_reducible intro _) | (dsimp only) | (refine any_forIn_range (fun _ _ => ?_) _ _) | (refine any_forIn_list (fun _ _ => ?_) _ _) | (refine any_forIn_array (fun _ _ => ?_) _ _) | (refine any_foldlM (fun _ _ => ?_) _ _) | (refine any_mapM_array (fun _ => ?_) _) | (refine any_forIn'_range _ _ (fun _ _ _ => ?_) _)
@[simp] theorem any_markStringish (a : Addr) : Any P (markStringish a) := by
 unfold markStringish
 repeat' first | (with_reducible refine any_bind ?_ (fun _ => ?_)) | (with_reducible refine any_map ?_) | (simp; done) | (split) | (with_reducible intro _) | (dsimp only) | (refine any_forIn_range (fun _ _ => ?_) _ _) | (refine any_forIn_list (fun _ _ => ?_) _ _) | (refine any_forIn_array (fun _ _ => ?_) _ _) | (refine any_foldlM (fun _ _ => ?_) _ _) | (refine any_mapM_array (fun _ => ?_) _) | (refine any_forIn'_range _ _ (fun _ _ _ => ?_) _)
@[simp] theorem any_stringish (a : Addr) : Any P (stringish a) := by
 unfold stringish
 repeat' first | (with_reducible refine any_bind ?_ (fun _ => ?_)) | (with_reducible refine any_map ?_) | (simp; done) | (split) | (with_reducible intro _) | (dsimp only) | (refine any_forIn_range (fun _ _ => ?_) _ _) | (refine any_forIn_list (fun _ _ => ?_) _ _) | (refine any_forIn_array (fun _ _ => ?_) _ _) | (refine any_foldlM (fun _ _ => ?_) _ _) | (refine any_mapM_array (fun _ => ?_) _) | (refine any_forIn'_range _ _ (fun _ _ _ => ?_) _)
@[simp] theorem any_mayBeOne (a b : Addr) : Any P (mayBeOne a b) := by
 unfold mayBeOne
 repeat' first | (with_reducible refine any_bind ?_ (fun _ => ?_)) | (with_reducible refine any_map ?_) | (simp; done) | (split) | (with_reducible intro _) | (dsimp only) | (refine any_forIn_range (fun _ _ => ?_) _ _) | (refine any_forIn_list (fun _ _ => ?_) _ _) | (refine any_forIn_array (fun _ _ => ?_) _ _) | (refine any_foldlM (fun _ _ => ?_) _ _) | (refine any_mapM_array (fun _ => ?_) _) | (refine any_forIn'_range _ _ (fun _ _ _ => ?_) _)
@[simp] theorem any_sameAddr (a b : Addr) : Any P (sameAddr a b) := by
 unfold sameAddr
 repeat' first | (with_reducible refine any_bind ?_ (fun _ => ?_)) | (with_reducible refine any_map ?_) | (simp; done) | (split) | (with_reducible intro _) | (dsimp only) | (refine any_forIn_range (fun _ _ => ?_) _ _) | (refine any_forIn_list (fun _ _ => ?_) _ _) | (refine any_forIn_array (fun _ _ => ?_) _ _) | (refine any_foldlM (fun _ _ => ?_) _ _) | (refine any_mapM_array (fun _ => ?_) _) | (refine any_forIn'_range _ _ (fun _ _ _ => ?_) _)
@[simp] theorem any_samePointer  (v1 : Option Addr) (v2 : Option Addr) : Any P (samePointer v1 v2) := by
 unfold samePointer
 repeat' first | (with_reducible refine any_bind ?_ (fun _ => ?_)) | (with_reducible refine any_map ?_) | (simp; done) | (split) | (with_reducible intro _) | (dsimp only) | (refine any_forIn_range (fun _ _ => ?_) _ _) | (refine any_forIn_list (fun _ _ => ?_) _ _) | (refine any_forIn_array (fun _ _ => ?_) _ _) | (refine any_foldlM (fun _ _ => ?_) _ _) | (refine any_mapM_array (fun _ => ?_) _) | (refine any_forIn'_range _ _ (fun _ _ _ => ?_) _)
@[simp] theorem any_typeInfo (t : TypeId) : Any P (typeInfo t) := by
 unfold typeInfo
 repeat' first | (with_reducible refine any_bind ?_ (fun _ => ?_)) | (with_reducible refine any_map ?_) | (simp; done) | (split) | (with_reducible intro _) | (dsimp only) | (refine any_forIn_range (fun _ _ => ?_) _ _) | (refine any_forIn_list (fun _ _ => ?_) _ _) | (refine any_forIn_array (fun _ _ => ?_) _ _) | (refine any_foldlM (fun _ _ => ?_) _ _) | (refine any_mapM_array (fun _ => ?_) _) | (refine any_forIn'_range _ _ (fun _ _ _ => ?_) _)
@[simp] theorem any_cutType (name : String) : Any P (cutType name) := by
 unfold cutType
 repeat' first | (with_reducible refine any_bind ?_ (fun _ => ?_)) | (with_reducible refine any_map ?_) | (simp; done) | (split) | (with_reducible intro _) | (dsimp only) | (refine any_forIn_range (fun _ _ => ?_) _ _) | (refine any_forIn_list (fun _ _ => ?_) _ _) | (refine any_forIn_array (fun _ _ => ?_) _ _) | (refine any_foldlM (fun _ _ => ?_) _ _) | (refine any_mapM_array (fun _ => ?_) _) | (refine any_forIn'_range _ _ (fun _ _ _ => ?_) _)
@[simp] theorem any_globalAddr (name : String) : Any P (globalAddr name) := by
 unfold globalAddr
 repeat' first | (with_reducible refine any_bind ?_ (fun _ => ?_)) | (with_reducible refine any_map ?_) | (simp; done) | (split) | (with_reducible intro _) | (dsimp only) | (refine any_forIn_range (fun _ _ => ?_) _ _) | (refine any_forIn_list (fun _ _ => ?_) _ _) | (refine any_forIn_array (fun _ _ => ?_) _ _) | (refine any_foldlM (fun _ _ => ?_) _ _) | (refine any_mapM_array (fun _ => ?_) _) | (refine any_forIn'_range _ _ (fun _ _ _ => ?_) _)
@[simp] theorem any_typeStr (t : TypeId) : Any P (typeStr t) := by
 unfold typeStr
 repeat' first | (with_reducible refine any_bind ?_ (fun _ => ?_)) | (with_reducible refine any_map ?_) | (simp; done) | (split) | (with_reducible intro _) | (dsimp only) | (refine any_forIn_range (fun _ _ => ?_) _ _) | (refine any_forIn_list (fun _ _ => ?_) _ _) | (refine any_forIn_array (fun _ _ => ?_) _ _) | (refine any_foldlM (fun _ _ => ?_) _ _) | (refine any_mapM_array (fun _ => ?_) _) | (refine any_forIn'_range _ _ (fun _ _ _ => ?_) _)
@[simp] theorem any_zeroValue (t : TypeId) : Any P (zeroValue t) := by
 unfold zeroValue
 repeat' first | (with_reducible refine any_bind ?_ (fun _ => ?_)) | (with_reducible refine any_map ?_) | (simp; done) | (split) | (with_reducible intro _) | (dsimp only) | (refine any_forIn_range (fun _ _ => ?_) _ _) | (refine any_forIn_list (fun _ _ => ?_) _ _) | (refine any_forIn_array (fun _ _ => ?_) _ _) | (refine any_foldlM (fun _ _ => ?_) _ _) | (refine any_mapM_array (fun _ => ?_) _) | (refine any_forIn'_range _ _ (fun _ _ _ => ?_) _)
@[simp] theorem any_sizeOf (t : TypeId) : Any P (sizeOf t) := by
 unfold sizeOf
 repeat' first | (with_reducible refine any_bind ?_ (fun _ => ?_)) | (with_reducible refine any_map ?_) | (simp; done) | (split) | (with_reducible intro _) | (dsimp only) | (refine any_forIn_range (fun _ _ => ?_) _ _) | (refine any_forIn_list (fun _ _ => ?_) _ _) | (refine any_forIn_array (fun _ _ => ?_) _ _) | (refine any_foldlM (fun _ _ => ?_) _ _) | (refine any_mapM_array (fun _ => ?_) _) | (refine any_forIn'_range _ _ (fun _ _ _ => ?_) _)
@[simp] theorem any_isAgg (t : TypeId) : Any P (isAgg t) := by
 unfold isAgg
 repeat' first | (with_reducible refine any_bind ?_ (fun _ => ?_)) | (with_reducible refine any_map ?_) | (simp; done) | (split) | (with_reducible intro _) | (dsimp only) | (refine any_forIn_range (fun _ _ => ?_) _ _) | (refine any_forIn_list (fun _ _ => ?_) _ _) | (refine any_forIn_array (fun _ _ => ?_) _ _) | (refine any_foldlM (fun _ _ => ?_) _ _) | (refine any_mapM_array (fun _ => ?_) _) | (refine any_forIn'_range _ _ (fun _ _ _ => ?_) _)
@[simp] theorem any_loadCellsFrom (a : Addr) : ∀ (n i : Nat) (acc : Array Value), Any P (loadCellsFrom a i n acc)
 | 0, _, acc => any_pure acc
 | n + 1, i, acc => any_bind (any_load _ _) fun _ => any_loadCellsFrom a n (i + 1) _
@[simp] theorem any_loadCells (a : Addr) (n : Nat) : Any P (loadCells a n) := by
 unfold loadCells
 repeat' first | (with_reducible refine any_bind ?_ (fun _ => ?_)) | (with_reducible refine any_map ?_) | (simp; done) | (split) | (with_reducible intro _) | (dsimp only) | (refine any_forIn_range (fun _ _ => ?_) _ _) | (refine any_forIn_list (fun _ _ => ?_) _ _) | (refine any_forIn_array (fun _ _ => ?_) _ _) | (refine any_foldlM (fun _ _ => ?_) _ _) | (refine any_mapM_array (fun _ => ?_) _) | (refine any_forIn'_range _ _ (fun _ _ _ => ?_) _)
@[simp] theorem any_storeCells (a : Addr) : ∀ (vs : List Value) (i : Nat), Any P (storeCells a vs i)
 | [], _ => any_pure _
 | v :: rest, i => any_bind (any_store _ _ _) fun _ => any_storeCells a rest (i + 1)
@[simp] theorem any_loadVar (t : TypeId) (a : Addr) : Any P (loadVar t a) := by
 unfold loadVar
 repeat' first | (with_reducible refine any_bind ?_ (fun _ => ?_)) | (with_reducible refine any_map ?_) | (simp; done) | (split) | (with_reducible intro _) | (dsimp only) | (refine any_forIn_range (fun _ _ => ?_) _ _) | (refine any_forIn_list (fun _ _ => ?_) _ _) | (refine any_forIn_array (fun _ _ => ?_) _ _) | (refine any_foldlM (fun _ _ => ?_) _ _) | (refine any_mapM_array (fun _ => ?_) _) | (refine any_forIn'_range _ _ (fun _ _ _ => ?_) _)
@[simp] theorem any_storeVar (t : TypeId) (a : Addr) (v : Value) : Any P (storeVar t a v) := by
 unfold storeVar
 repeat' first | (with_reducible refine any_bind ?_ (fun _ => ?_)) | (with_reducible refine any_map ?_) | (simp; done) | (split) | (with_reducible intro _) | (dsimp only) | (refine any_forIn_range (fun _ _ => ?_) _ _) | (refine any_forIn_list (fun _ _ => ?_) _ _) | (refine any_forIn_array (fun _ _ => ?_) _ _) | (refine any_foldlM (fun _ _ => ?_) _ _) | (refine any_mapM_array (fun _ => ?_) _) | (refine any_forIn'_range _ _ (fun _ _ _ => ?_) _)
@[simp] theorem any_newRow (elem : TypeId) (cells : Array Value) : Any P (newRow elem cells) := by
 unfold newRow
 repeat' first | (with_reducible refine any_bind ?_ (fun _ => ?_)) | (with_reducible refine any_map ?_) | (simp; done) | (split) | (with_reducible intro _) | (dsimp only) | (refine any_forIn_range (fun _ _ => ?_) _ _) | (refine any_forIn_list (fun _ _ => ?_) _ _) | (refine any_forIn_array (fun _ _ => ?_) _ _) | (refine any_foldlM (fun _ _ => ?_) _ _) | (refine any_mapM_array (fun _ => ?_) _) | (refine any_forIn'_range _ _ (fun _ _ _ => ?_) _)
@[simp] theorem any_newVar (t : TypeId) (v : Value) : Any P (newVar t v) := by
 unfold newVar
 repeat' first | (with_reducible refine any_bind ?_ (fun _ => ?_)) | (with_reducible refine any_map ?_) | (simp; done) | (split) | (with_reducible intro _) | (dsimp only) | (refine any_forIn_range (fun _ _ => ?_) _ _) | (refine any_forIn_list (fun _ _ => ?_) _ _) | (refine any_forIn_array (fun _ _ => ?_) _ _) | (refine any_foldlM (fun _ _ => ?_) _ _) | (refine any_mapM_array (fun _ => ?_) _) | (refine any_forIn'_range _ _ (fun _ _ _ => ?_) _)
@[simp] theorem any_elemOf (t : TypeId) : Any P (elemOf t) := by
 unfold elemOf
 repeat' first | (with_reducible refine any_bind ?_ (fun _ => ?_)) | (with_reducible refine any_map ?_) | (simp; done) | (split) | (with_reducible intro _) | (dsimp only) | (refine any_forIn_range (fun _ _ => ?_) _ _) | (refine any_forIn_list (fun _ _ => ?_) _ _) | (refine any_forIn_array (fun _ _ => ?_) _ _) | (refine any_foldlM (fun _ _ => ?_) _ _) | (refine any_mapM_array (fun _ => ?_) _) | (refine any_forIn'_range _ _ (fun _ _ _ => ?_) _)
@[simp] theorem any_part (t : TypeId) (cs : Array Value) (off : Nat) : Any P (part t cs off) := by
 unfold part
 repeat' first | (with_reducible refine any_bind ?_ (fun _ => ?_)) | (with_reducible refine any_map ?_) | (simp; done) | (split) | (with_reducible intro _) | (dsimp only) | (refine any_forIn_range (fun _ _ => ?_) _ _) | (refine any_forIn_list (fun _ _ => ?_) _ _) | (refine any_forIn_array (fun _ _ => ?_) _ _) | (refine any_foldlM (fun _ _ => ?_) _ _) | (refine any_mapM_array (fun _ => ?_) _) | (refine any_forIn'_range _ _ (fun _ _ _ => ?_) _)
@[simp] theorem any_panicString {α : Type} (msg : String) : Any P (panicString msg : Sem α) := by
 unfold panicString
 repeat' first | (with_reducible refine any_bind ?_ (fun _ => ?_)) | (with_reducible refine any_map ?_) | (simp; done) | (split) | (with_reducible intro _) | (dsimp only) | (refine any_forIn_range (fun _ _ => ?_) _ _) | (refine any_forIn_list (fun _ _ => ?_) _ _) | (refine any_forIn_array (fun _ _ => ?_) _ _) | (refine any_foldlM (fun _ _ => ?_) _ _) | (refine any_mapM_array (fun _ => ?_) _) | (refine any_forIn'_range _ _ (fun _ _ _ => ?_) _)
@[simp] theorem any_externState (name : String) : Any P (externState name) := by
 unfold externState
 repeat' first | (with_reducible refine any_bind ?_ (fun _ => ?_)) | (with_reducible refine any_map ?_) | (simp; done) | (split) | (with_reducible intro _) | (dsimp only) | (refine any_forIn_range (fun _ _ => ?_) _ _) | (refine any_forIn_list (fun _ _ => ?_) _ _) | (refine any_forIn_array (fun _ _ => ?_) _ _) | (refine any_foldlM (fun _ _ => ?_) _ _) | (refine any_mapM_array (fun _ => ?_) _) | (refine any_forIn'_range _ _ (fun _ _ _ => ?_) _)
@[simp] theorem any_runtimePanic {α : Type} (e : RuntimeError) : Any P (runtimePanic e : Sem α) := by
 unfold runtimePanic
 repeat' first | (with_reducible refine any_bind ?_ (fun _ => ?_)) | (with_reducible refine any_map ?_) | (simp; done) | (split) | (with_reducible intro _) | (dsimp only) | (refine any_forIn_range (fun _ _ => ?_) _ _) | (refine any_forIn_list (fun _ _ => ?_) _ _) | (refine any_forIn_array (fun _ _ => ?_) _ _) | (refine any_foldlM (fun _ _ => ?_) _ _) | (refine any_mapM_array (fun _ => ?_) _) | (refine any_forIn'_range _ _ (fun _ _ _ => ?_) _)
@[simp] theorem any_boundsPanic {α : Type} (k : IntKind) (x y : Int) (code : BoundsCode) : Any P (boundsPanic k x y code : Sem α) := by
 unfold boundsPanic
 repeat' first | (with_reducible refine any_bind ?_ (fun _ => ?_)) | (with_reducible refine any_map ?_) | (simp; done) | (split) | (with_reducible intro _) | (dsimp only) | (refine any_forIn_range (fun _ _ => ?_) _ _) | (refine any_forIn_list (fun _ _ => ?_) _ _) | (refine any_forIn_array (fun _ _ => ?_) _ _) | (refine any_foldlM (fun _ _ => ?_) _ _) | (refine any_mapM_array (fun _ => ?_) _) | (refine any_forIn'_range _ _ (fun _ _ _ => ?_) _)
@[simp] theorem any_asIntOf  (v1 : Value) : Any P (asIntOf v1) := by
 unfold asIntOf
 repeat' first | (with_reducible refine any_bind ?_ (fun _ => ?_)) | (with_reducible refine any_map ?_) | (simp; done) | (split) | (with_reducible intro _) | (dsimp only) | (refine any_forIn_range (fun _ _ => ?_) _ _) | (refine any_forIn_list (fun _ _ => ?_) _ _) | (refine any_forIn_array (fun _ _ => ?_) _ _) | (refine any_foldlM (fun _ _ => ?_) _ _) | (refine any_mapM_array (fun _ => ?_) _) | (refine any_forIn'_range _ _ (fun _ _ _ => ?_) _)
@[simp] theorem any_asInt (v : Value) : Any P (asInt v) := by
 unfold asInt
 repeat' first | (with_reducible refine any_bind ?_ (fun _ => ?_)) | (with_reducible refine any_map ?_) | (simp; done) | (split) | (with_reducible intro _) | (dsimp only) | (refine any_forIn_range (fun _ _ => ?_) _ _) | (refine any_forIn_list (fun _ _ => ?_) _ _) | (refine any_forIn_array (fun _ _ => ?_) _ _) | (refine any_foldlM (fun _ _ => ?_) _ _) | (refine any_mapM_array (fun _ => ?_) _) | (refine any_forIn'_range _ _ (fun _ _ _ => ?_) _)
@[simp] theorem any_asBool  (v1 : Value) : Any P (asBool v1) := by
 unfold asBool
 repeat' first | (with_reducible refine any_bind ?_ (fun _ => ?_)) | (with_reducible refine any_map ?_) | (simp; done) | (split) | (with_reducible intro _) | (dsimp only) | (refine any_forIn_range (fun _ _ => ?_) _ _) | (refine any_forIn_list (fun _ _ => ?_) _ _) | (refine any_forIn_array (fun _ _ => ?_) _ _) | (refine any_foldlM (fun _ _ => ?_) _ _) | (refine any_mapM_array (fun _ => ?_) _) | (refine any_forIn'_range _ _ (fun _ _ _ => ?_) _)
@[simp] theorem any_asString  (v1 : Value) : Any P (asString v1) := by
 unfold asString
 repeat' first | (with_reducible refine any_bind ?_ (fun _ => ?_)) | (with_reducible refine any_map ?_) | (simp; done) | (split) | (with_reducible intro _) | (dsimp only) | (refine any_forIn_range (fun _ _ => ?_) _ _) | (refine any_forIn_list (fun _ _ => ?_) _ _) | (refine any_forIn_array (fun _ _ => ?_) _ _) | (refine any_foldlM (fun _ _ => ?_) _ _) | (refine any_mapM_array (fun _ => ?_) _) | (refine any_forIn'_range _ _ (fun _ _ _ => ?_) _)
@[simp] theorem any_asAgg  (v1 : Value) : Any P (asAgg v1) := by
 unfold asAgg
 repeat' first | (with_reducible refine any_bind ?_ (fun _ => ?_)) | (with_reducible refine any_map ?_) | (simp; done) | (split) | (with_reducible intro _) | (dsimp only) | (refine any_forIn_range (fun _ _ => ?_) _ _) | (refine any_forIn_list (fun _ _ => ?_) _ _) | (refine any_forIn_array (fun _ _ => ?_) _ _) | (refine any_foldlM (fun _ _ => ?_) _ _) | (refine any_mapM_array (fun _ => ?_) _) | (refine any_forIn'_range _ _ (fun _ _ _ => ?_) _)
@[simp] theorem any_asAddr  (v1 : Value) : Any P (asAddr v1) := by
 unfold asAddr
 repeat' first | (with_reducible refine any_bind ?_ (fun _ => ?_)) | (with_reducible refine any_map ?_) | (simp; done) | (split) | (with_reducible intro _) | (dsimp only) | (refine any_forIn_range (fun _ _ => ?_) _ _) | (refine any_forIn_list (fun _ _ => ?_) _ _) | (refine any_forIn_array (fun _ _ => ?_) _ _) | (refine any_foldlM (fun _ _ => ?_) _ _) | (refine any_mapM_array (fun _ => ?_) _) | (refine any_forIn'_range _ _ (fun _ _ _ => ?_) _)
@[simp] theorem any_byteOf (a : Addr) : Any P (byteOf a) := by
 unfold byteOf
 repeat' first | (with_reducible refine any_bind ?_ (fun _ => ?_)) | (with_reducible refine any_map ?_) | (simp; done) | (split) | (with_reducible intro _) | (dsimp only) | (refine any_forIn_range (fun _ _ => ?_) _ _) | (refine any_forIn_list (fun _ _ => ?_) _ _) | (refine any_forIn_array (fun _ _ => ?_) _ _) | (refine any_foldlM (fun _ _ => ?_) _ _) | (refine any_mapM_array (fun _ => ?_) _) | (refine any_forIn'_range _ _ (fun _ _ _ => ?_) _)
@[simp] theorem any_partAt (base : Addr) (cells bytes : Nat) : Any P (partAt base cells bytes) := by
 unfold partAt
 repeat' first | (with_reducible refine any_bind ?_ (fun _ => ?_)) | (with_reducible refine any_map ?_) | (simp; done) | (split) | (with_reducible intro _) | (dsimp only) | (refine any_forIn_range (fun _ _ => ?_) _ _) | (refine any_forIn_list (fun _ _ => ?_) _ _) | (refine any_forIn_array (fun _ _ => ?_) _ _) | (refine any_foldlM (fun _ _ => ?_) _ _) | (refine any_mapM_array (fun _ => ?_) _) | (refine any_forIn'_range _ _ (fun _ _ _ => ?_) _)
@[simp] theorem any_fieldPlace (a : Addr) (f : Field) : Any P (fieldPlace a f) := by
 unfold fieldPlace
 repeat' first | (with_reducible refine any_bind ?_ (fun _ => ?_)) | (with_reducible refine any_map ?_) | (simp; done) | (split) | (with_reducible intro _) | (dsimp only) | (refine any_forIn_range (fun _ _ => ?_) _ _) | (refine any_forIn_list (fun _ _ => ?_) _ _) | (refine any_forIn_array (fun _ _ => ?_) _ _) | (refine any_foldlM (fun _ _ => ?_) _ _) | (refine any_mapM_array (fun _ => ?_) _) | (refine any_forIn'_range _ _ (fun _ _ _ => ?_) _)
@[simp] theorem any_variablesAt (a : Addr) (u : TypeId) (n : Nat) : Any P (variablesAt a u n) := by
 unfold variablesAt
 repeat' first | (with_reducible refine any_bind ?_ (fun _ => ?_)) | (with_reducible refine any_map ?_) | (simp; done) | (split) | (with_reducible intro _) | (dsimp only) | (refine any_forIn_range (fun _ _ => ?_) _ _) | (refine any_forIn_list (fun _ _ => ?_) _ _) | (refine any_forIn_array (fun _ _ => ?_) _ _) | (refine any_foldlM (fun _ _ => ?_) _ _) | (refine any_mapM_array (fun _ => ?_) _) | (refine any_forIn'_range _ _ (fun _ _ _ => ?_) _)
@[simp] theorem any_intVariablesAt (k : IntKind) (a : Addr) (n : Nat) : Any P (intVariablesAt k a n) := by
 unfold intVariablesAt
 repeat' first | (with_reducible refine any_bind ?_ (fun _ => ?_)) | (with_reducible refine any_map ?_) | (simp; done) | (split) | (with_reducible intro _) | (dsimp only) | (refine any_forIn_range (fun _ _ => ?_) _ _) | (refine any_forIn_list (fun _ _ => ?_) _ _) | (refine any_forIn_array (fun _ _ => ?_) _ _) | (refine any_foldlM (fun _ _ => ?_) _ _) | (refine any_mapM_array (fun _ => ?_) _) | (refine any_forIn'_range _ _ (fun _ _ _ => ?_) _)
@[simp] theorem any_byteVariablesAt (a : Addr) (n : Nat) : Any P (byteVariablesAt a n) := by
 unfold byteVariablesAt
 repeat' first | (with_reducible refine any_bind ?_ (fun _ => ?_)) | (with_reducible refine any_map ?_) | (simp; done) | (split) | (with_reducible intro _) | (dsimp only) | (refine any_forIn_range (fun _ _ => ?_) _ _) | (refine any_forIn_list (fun _ _ => ?_) _ _) | (refine any_forIn_array (fun _ _ => ?_) _ _) | (refine any_foldlM (fun _ _ => ?_) _ _) | (refine any_mapM_array (fun _ => ?_) _) | (refine any_forIn'_range _ _ (fun _ _ _ => ?_) _)
@[simp] theorem any_loadBytes : ∀ (n : Nat) (a : Addr) (acc : ByteArray), Any P (loadBytes a acc n)
 | 0, _, acc => any_pure acc
 | n + 1, a, acc => by
   unfold loadBytes
   repeat' first | (with_reducible refine any_bind ?_ (fun _ => ?_)) | (simp [any_loadBytes]; done) | (split) | (with_reducible intro _) | (dsimp only) | exact any_loadBytes n _ _
@[simp] theorem any_Op_twoPlaces (a b : Addr) : Any P (Op.twoPlaces a b) := by
 unfold Op.twoPlaces
 repeat' first | (with_reducible refine any_bind ?_ (fun _ => ?_)) | (with_reducible refine any_map ?_) | (simp; done) | (split) | (with_reducible intro _) | (dsimp only) | (refine any_forIn_range (fun _ _ => ?_) _ _) | (refine any_forIn_list (fun _ _ => ?_) _ _) | (refine any_forIn_array (fun _ _ => ?_) _ _) | (refine any_foldlM (fun _ _ => ?_) _ _) | (refine any_mapM_array (fun _ => ?_) _) | (refine any_forIn'_range _ _ (fun _ _ _ => ?_) _)
@[simp] theorem any_Op_addrSub (k : IntKind) (a b : Addr) : Any P (Op.addrSub k a b) := by
 unfold Op.addrSub
 repeat' first | (with_reducible refine any_bind ?_ (fun _ => ?_)) | (with_reducible refine any_map ?_) | (simp; done) | (split) | (with_reducible intro _) | (dsimp only) | (refine any_forIn_range (fun _ _ => ?_) _ _) | (refine any_forIn_list (fun _ _ => ?_) _ _) | (refine any_forIn_array (fun _ _ => ?_) _ _) | (refine any_foldlM (fun _ _ => ?_) _ _) | (refine any_mapM_array (fun _ => ?_) _) | (refine any_forIn'_range _ _ (fun _ _ _ => ?_) _)
@[simp] theorem any_Op_addrCmp (op : BinOp) (a b : Addr) : Any P (Op.addrCmp op a b) := by
 unfold Op.addrCmp
 repeat' first | (with_reducible refine any_bind ?_ (fun _ => ?_)) | (with_reducible refine any_map ?_) | (simp; done) | (split) | (with_reducible intro _) | (dsimp only) | (refine any_forIn_range (fun _ _ => ?_) _ _) | (refine any_forIn_list (fun _ _ => ?_) _ _) | (refine any_forIn_array (fun _ _ => ?_) _ _) | (refine any_foldlM (fun _ _ => ?_) _ _) | (refine any_mapM_array (fun _ => ?_) _) | (refine any_forIn'_range _ _ (fun _ _ _ => ?_) _)
@[simp] theorem any_Op_addrMod (k : IntKind) (a : Addr) (n : Int) : Any P (Op.addrMod k a n) := by
 unfold Op.addrMod
 repeat' first | (with_reducible refine any_bind ?_ (fun _ => ?_)) | (with_reducible refine any_map ?_) | (simp; done) | (split) | (with_reducible intro _) | (dsimp only) | (refine any_forIn_range (fun _ _ => ?_) _ _) | (refine any_forIn_list (fun _ _ => ?_) _ _) | (refine any_forIn_array (fun _ _ => ?_) _ _) | (refine any_foldlM (fun _ _ => ?_) _ _) | (refine any_mapM_array (fun _ => ?_) _) | (refine any_forIn'_range _ _ (fun _ _ _ => ?_) _)
@[simp] theorem any_Op_intArith (op : BinOp) (k : IntKind) (x y : Int) : Any P (Op.intArith op k x y) := by
 unfold Op.intArith
 repeat' first | (with_reducible refine any_bind ?_ (fun _ => ?_)) | (with_reducible refine any_map ?_) | (simp; done) | (split) | (with_reducible intro _) | (dsimp only) | (refine any_forIn_range (fun _ _ => ?_) _ _) | (refine any_forIn_list (fun _ _ => ?_) _ _) | (refine any_forIn_array (fun _ _ => ?_) _ _) | (refine any_foldlM (fun _ _ => ?_) _ _) | (refine any_mapM_array (fun _ => ?_) _) | (refine any_forIn'_range _ _ (fun _ _ _ => ?_) _)
@[simp] theorem any_Op_intDiv (op : BinOp) (k : IntKind) (x y : Int) : Any P (Op.intDiv op k x y) := by
 unfold Op.intDiv
 repeat' first | (with_reducible refine any_bind ?_ (fun _ => ?_)) | (with_reducible refine any_map ?_) | (simp; done) | (split) | (with_reducible intro _) | (dsimp only) | (refine any_forIn_range (fun _ _ => ?_) _ _) | (refine any_forIn_list (fun _ _ => ?_) _ _) | (refine any_forIn_array (fun _ _ => ?_) _ _) | (refine any_foldlM (fun _ _ => ?_) _ _) | (refine any_mapM_array (fun _ => ?_) _) | (refine any_forIn'_range _ _ (fun _ _ _ => ?_) _)
@[simp] theorem any_Op_intBits (op : BinOp) (k : IntKind) (x y : Int) : Any P (Op.intBits op k x y) := by
 unfold Op.intBits
 repeat' first | (with_reducible refine any_bind ?_ (fun _ => ?_)) | (with_reducible refine any_map ?_) | (simp; done) | (split) | (with_reducible intro _) | (dsimp only) | (refine any_forIn_range (fun _ _ => ?_) _ _) | (refine any_forIn_list (fun _ _ => ?_) _ _) | (refine any_forIn_array (fun _ _ => ?_) _ _) | (refine any_foldlM (fun _ _ => ?_) _ _) | (refine any_mapM_array (fun _ => ?_) _) | (refine any_forIn'_range _ _ (fun _ _ _ => ?_) _)
@[simp] theorem any_Op_intCmp (op : BinOp) (x y : Int) : Any P (Op.intCmp op x y) := by
 unfold Op.intCmp
 repeat' first | (with_reducible refine any_bind ?_ (fun _ => ?_)) | (with_reducible refine any_map ?_) | (simp; done) | (split) | (with_reducible intro _) | (dsimp only) | (refine any_forIn_range (fun _ _ => ?_) _ _) | (refine any_forIn_list (fun _ _ => ?_) _ _) | (refine any_forIn_array (fun _ _ => ?_) _ _) | (refine any_foldlM (fun _ _ => ?_) _ _) | (refine any_mapM_array (fun _ => ?_) _) | (refine any_forIn'_range _ _ (fun _ _ _ => ?_) _)
@[simp] theorem any_Op_shift (op : BinOp) (k : IntKind) (x : Int) (_yk : IntKind) (y : Int) : Any P (Op.shift op k x _yk y) := by
 unfold Op.shift
 repeat' first | (with_reducible refine any_bind ?_ (fun _ => ?_)) | (with_reducible refine any_map ?_) | (simp; done) | (split) | (with_reducible intro _) | (dsimp only) | (refine any_forIn_range (fun _ _ => ?_) _ _) | (refine any_forIn_list (fun _ _ => ?_) _ _) | (refine any_forIn_array (fun _ _ => ?_) _ _) | (refine any_foldlM (fun _ _ => ?_) _ _) | (refine any_mapM_array (fun _ => ?_) _) | (refine any_forIn'_range _ _ (fun _ _ _ => ?_) _)
@[simp] theorem any_Op_floatArith (op : BinOp) (k : FloatKind) (x y : Nat) : Any P (Op.floatArith op k x y) := by
 unfold Op.floatArith
 repeat' first | (with_reducible refine any_bind ?_ (fun _ => ?_)) | (with_reducible refine any_map ?_) | (simp; done) | (split) | (with_reducible intro _) | (dsimp only) | (refine any_forIn_range (fun _ _ => ?_) _ _) | (refine any_forIn_list (fun _ _ => ?_) _ _) | (refine any_forIn_array (fun _ _ => ?_) _ _) | (refine any_foldlM (fun _ _ => ?_) _ _) | (refine any_mapM_array (fun _ => ?_) _) | (refine any_forIn'_range _ _ (fun _ _ _ => ?_) _)
@[simp] theorem any_Op_floatCmp (op : BinOp) (k : FloatKind) (x y : Nat) : Any P (Op.floatCmp op k x y) := by
 unfold Op.floatCmp
 repeat' first | (with_reducible refine any_bind ?_ (fun _ => ?_)) | (with_reducible refine any_map ?_) | (simp; done) | (split) | (with_reducible intro _) | (dsimp only) | (refine any_forIn_range (fun _ _ => ?_) _ _) | (refine any_forIn_list (fun _ _ => ?_) _ _) | (refine any_forIn_array (fun _ _ => ?_) _ _) | (refine any_foldlM (fun _ _ => ?_) _ _) | (refine any_mapM_array (fun _ => ?_) _) | (refine any_forIn'_range _ _ (fun _ _ _ => ?_) _)
@[simp] theorem any_Op_stringOp (op : BinOp) (x y : ByteArray) : Any P (Op.stringOp op x y) := by
 unfold Op.stringOp
 repeat' first | (with_reducible refine any_bind ?_ (fun _ => ?_)) | (with_reducible refine any_map ?_) | (simp; done) | (split) | (with_reducible intro _) | (dsimp only) | (refine any_forIn_range (fun _ _ => ?_) _ _) | (refine any_forIn_list (fun _ _ => ?_) _ _) | (refine any_forIn_array (fun _ _ => ?_) _ _) | (refine any_foldlM (fun _ _ => ?_) _ _) | (refine any_mapM_array (fun _ => ?_) _) | (refine any_forIn'_range _ _ (fun _ _ _ => ?_) _)
@[simp] theorem any_Op_unary (op : UnOp) (x : Value) : Any P (Op.unary op x) := by
 unfold Op.unary
 repeat' first | (with_reducible refine any_bind ?_ (fun _ => ?_)) | (with_reducible refine any_map ?_) | (simp; done) | (split) | (with_reducible intro _) | (dsimp only) | (refine any_forIn_range (fun _ _ => ?_) _ _) | (refine any_forIn_list (fun _ _ => ?_) _ _) | (refine any_forIn_array (fun _ _ => ?_) _ _) | (refine any_foldlM (fun _ _ => ?_) _ _) | (refine any_mapM_array (fun _ => ?_) _) | (refine any_forIn'_range _ _ (fun _ _ _ => ?_) _)
@[simp] theorem any_Conv_floatToFloat (src : FloatKind) (bits : Nat) (dst : FloatKind) : Any P (Conv.floatToFloat src bits dst) := by
 unfold Conv.floatToFloat
 repeat' first | (with_reducible refine any_bind ?_ (fun _ => ?_)) | (with_reducible refine any_map ?_) | (simp; done) | (split) | (with_reducible intro _) | (dsimp only) | (refine any_forIn_range (fun _ _ => ?_) _ _) | (refine any_forIn_list (fun _ _ => ?_) _ _) | (refine any_forIn_array (fun _ _ => ?_) _ _) | (refine any_foldlM (fun _ _ => ?_) _ _) | (refine any_mapM_array (fun _ => ?_) _) | (refine any_forIn'_range _ _ (fun _ _ _ => ?_) _)
@[simp] theorem any_Op_Complex_arith (op : BinOp) (k : FloatKind) (x y : Nat) : Any P (Op.Complex.arith op k x y) := by
 unfold Op.Complex.arith
 repeat' first | (with_reducible refine any_bind ?_ (fun _ => ?_)) | (simp; done) | (split)
@[simp] theorem any_Op_Complex_add (x y : Nat) : Any P (Op.Complex.add x y) := any_Op_Complex_arith _ _ _ _
@[simp] theorem any_Op_Complex_sub (x y : Nat) : Any P (Op.Complex.sub x y) := any_Op_Complex_arith _ _ _ _
@[simp] theorem any_Op_Complex_mul (x y : Nat) : Any P (Op.Complex.mul x y) := any_Op_Complex_arith _ _ _ _
@[simp] theorem any_Op_Complex_quo (x y : Nat) : Any P (Op.Complex.quo x y) := any_Op_Complex_arith _ _ _ _
@[simp] theorem any_Op_Complex_cmp (op : BinOp) (k : FloatKind) (x y : Nat) : Any P (Op.Complex.cmp op k x y) := by
 unfold Op.Complex.cmp
 repeat' first | (with_reducible refine any_bind ?_ (fun _ => ?_)) | (with_reducible refine any_map ?_) | (simp; done) | (split) | (with_reducible intro _) | (dsimp only) | (refine any_forIn_range (fun _ _ => ?_) _ _) | (refine any_forIn_list (fun _ _ => ?_) _ _) | (refine any_forIn_array (fun _ _ => ?_) _ _) | (refine any_foldlM (fun _ _ => ?_) _ _) | (refine any_mapM_array (fun _ => ?_) _) | (refine any_forIn'_range _ _ (fun _ _ _ => ?_) _)
@[simp] theorem any_Op_Complex_conv (src : FloatKind) (x : Nat) (dst : FloatKind) : Any P (Op.Complex.conv src x dst) := by
 unfold Op.Complex.conv
 repeat' first | (with_reducible refine any_bind ?_ (fun _ => ?_)) | (with_reducible refine any_map ?_) | (simp; done) | (split) | (with_reducible intro _) | (dsimp only) | (refine any_forIn_range (fun _ _ => ?_) _ _) | (refine any_forIn_list (fun _ _ => ?_) _ _) | (refine any_forIn_array (fun _ _ => ?_) _ _) | (refine any_foldlM (fun _ _ => ?_) _ _) | (refine any_mapM_array (fun _ => ?_) _) | (refine any_forIn'_range _ _ (fun _ _ _ => ?_) _)
@[simp] theorem any_Op_Complex_product (a b c d : Nat) : Any P (Op.Complex.product a b c d) := by
 unfold Op.Complex.product
 repeat' first | (with_reducible refine any_bind ?_ (fun _ => ?_)) | (with_reducible refine any_map ?_) | (simp; done) | (split) | (with_reducible intro _) | (dsimp only) | (refine any_forIn_range (fun _ _ => ?_) _ _) | (refine any_forIn_list (fun _ _ => ?_) _ _) | (refine any_forIn_array (fun _ _ => ?_) _ _) | (refine any_foldlM (fun _ _ => ?_) _ _) | (refine any_mapM_array (fun _ => ?_) _) | (refine any_forIn'_range _ _ (fun _ _ _ => ?_) _)
@[simp] theorem any_Op_Complex_corrected (scale a b c d : Nat) : Any P (Op.Complex.corrected scale a b c d) := by
 unfold Op.Complex.corrected
 repeat' first | (with_reducible refine any_bind ?_ (fun _ => ?_)) | (with_reducible refine any_map ?_) | (simp; done) | (split) | (with_reducible intro _) | (dsimp only) | (refine any_forIn_range (fun _ _ => ?_) _ _) | (refine any_forIn_list (fun _ _ => ?_) _ _) | (refine any_forIn_array (fun _ _ => ?_) _ _) | (refine any_foldlM (fun _ _ => ?_) _ _) | (refine any_mapM_array (fun _ => ?_) _) | (refine any_forIn'_range _ _ (fun _ _ _ => ?_) _)
@[simp] theorem any_Op_Complex_quotient (a b c d : Nat) : Any P (Op.Complex.quotient a b c d) := by
 unfold Op.Complex.quotient
 repeat' first | (with_reducible refine any_bind ?_ (fun _ => ?_)) | (with_reducible refine any_map ?_) | (simp; done) | (split) | (with_reducible intro _) | (dsimp only) | (refine any_forIn_range (fun _ _ => ?_) _ _) | (refine any_forIn_list (fun _ _ => ?_) _ _) | (refine any_forIn_array (fun _ _ => ?_) _ _) | (refine any_foldlM (fun _ _ => ?_) _ _) | (refine any_mapM_array (fun _ => ?_) _) | (refine any_forIn'_range _ _ (fun _ _ _ => ?_) _)
@[simp] theorem any_Op_complexOp (op : BinOp) (k : FloatKind) (xr xi yr yi : Nat) : Any P (Op.complexOp op k xr xi yr yi) := by
 unfold Op.complexOp
 repeat' first | (with_reducible refine any_bind ?_ (fun _ => ?_)) | (with_reducible refine any_map ?_) | (simp; done) | (split) | (with_reducible intro _) | (dsimp only) | (refine any_forIn_range (fun _ _ => ?_) _ _) | (refine any_forIn_list (fun _ _ => ?_) _ _) | (refine any_forIn_array (fun _ _ => ?_) _ _) | (refine any_foldlM (fun _ _ => ?_) _ _) | (refine any_mapM_array (fun _ => ?_) _) | (refine any_forIn'_range _ _ (fun _ _ _ => ?_) _)
@[simp] theorem any_Conv_intToInt (dst : IntKind) (n : Int) : Any P (Conv.intToInt dst n) := by
 unfold Conv.intToInt
 repeat' first | (with_reducible refine any_bind ?_ (fun _ => ?_)) | (with_reducible refine any_map ?_) | (simp; done) | (split) | (with_reducible intro _) | (dsimp only) | (refine any_forIn_range (fun _ _ => ?_) _ _) | (refine any_forIn_list (fun _ _ => ?_) _ _) | (refine any_forIn_array (fun _ _ => ?_) _ _) | (refine any_foldlM (fun _ _ => ?_) _ _) | (refine any_mapM_array (fun _ => ?_) _) | (refine any_forIn'_range _ _ (fun _ _ _ => ?_) _)
@[simp] theorem any_Conv_intToFloat (dst : FloatKind) (n : Int) : Any P (Conv.intToFloat dst n) := by
 unfold Conv.intToFloat
 repeat' first | (with_reducible refine any_bind ?_ (fun _ => ?_)) | (with_reducible refine any_map ?_) | (simp; done) | (split) | (with_reducible intro _) | (dsimp only) | (refine any_forIn_range (fun _ _ => ?_) _ _) | (refine any_forIn_list (fun _ _ => ?_) _ _) | (refine any_forIn_array (fun _ _ => ?_) _ _) | (refine any_foldlM (fun _ _ => ?_) _ _) | (refine any_mapM_array (fun _ => ?_) _) | (refine any_forIn'_range _ _ (fun _ _ _ => ?_) _)
@[simp] theorem any_Conv_floatToInt (src : FloatKind) (bits : Nat) (dst : IntKind) : Any P (Conv.floatToInt src bits dst) := by
 unfold Conv.floatToInt
 repeat' first | (with_reducible refine any_bind ?_ (fun _ => ?_)) | (with_reducible refine any_map ?_) | (simp; done) | (split) | (with_reducible intro _) | (dsimp only) | (refine any_forIn_range (fun _ _ => ?_) _ _) | (refine any_forIn_list (fun _ _ => ?_) _ _) | (refine any_forIn_array (fun _ _ => ?_) _ _) | (refine any_foldlM (fun _ _ => ?_) _ _) | (refine any_mapM_array (fun _ => ?_) _) | (refine any_forIn'_range _ _ (fun _ _ _ => ?_) _)
@[simp] theorem any_Conv_complexToComplex (src : FloatKind) (re im : Nat) (dst : FloatKind) : Any P (Conv.complexToComplex src re im dst) := by
 unfold Conv.complexToComplex
 repeat' first | (with_reducible refine any_bind ?_ (fun _ => ?_)) | (with_reducible refine any_map ?_) | (simp; done) | (split) | (with_reducible intro _) | (dsimp only) | (refine any_forIn_range (fun _ _ => ?_) _ _) | (refine any_forIn_list (fun _ _ => ?_) _ _) | (refine any_forIn_array (fun _ _ => ?_) _ _) | (refine any_foldlM (fun _ _ => ?_) _ _) | (refine any_mapM_array (fun _ => ?_) _) | (refine any_forIn'_range _ _ (fun _ _ _ => ?_) _)
@[simp] theorem any_Conv_intToString (n : Int) : Any P (Conv.intToString n) := by
 unfold Conv.intToString
 repeat' first | (with_reducible refine any_bind ?_ (fun _ => ?_)) | (with_reducible refine any_map ?_) | (simp; done) | (split) | (with_reducible intro _) | (dsimp only) | (refine any_forIn_range (fun _ _ => ?_) _ _) | (refine any_forIn_list (fun _ _ => ?_) _ _) | (refine any_forIn_array (fun _ _ => ?_) _ _) | (refine any_foldlM (fun _ _ => ?_) _ _) | (refine any_mapM_array (fun _ => ?_) _) | (refine any_forIn'_range _ _ (fun _ _ _ => ?_) _)
@[simp] theorem any_Conv_stringToBytes (elem : TypeId) (s : ByteArray) : Any P (Conv.stringToBytes elem s) := by
 unfold Conv.stringToBytes
 repeat' first | (with_reducible refine any_bind ?_ (fun _ => ?_)) | (with_reducible refine any_map ?_) | (simp; done) | (split) | (with_reducible intro _) | (dsimp only) | (refine any_forIn_range (fun _ _ => ?_) _ _) | (refine any_forIn_list (fun _ _ => ?_) _ _) | (refine any_forIn_array (fun _ _ => ?_) _ _) | (refine any_foldlM (fun _ _ => ?_) _ _) | (refine any_mapM_array (fun _ => ?_) _) | (refine any_forIn'_range _ _ (fun _ _ _ => ?_) _)
@[simp] theorem any_Conv_bytesToString (x : Value) : Any P (Conv.bytesToString x) := by
 unfold Conv.bytesToString
 repeat' first | (with_reducible refine any_bind ?_ (fun _ => ?_)) | (with_reducible refine any_map ?_) | (simp; done) | (split) | (with_reducible intro _) | (dsimp only) | (refine any_forIn_range (fun _ _ => ?_) _ _) | (refine any_forIn_list (fun _ _ => ?_) _ _) | (refine any_forIn_array (fun _ _ => ?_) _ _) | (refine any_foldlM (fun _ _ => ?_) _ _) | (refine any_mapM_array (fun _ => ?_) _) | (refine any_forIn'_range _ _ (fun _ _ _ => ?_) _)
@[simp] theorem any_Conv_stringToRunes (elem : TypeId) (s : ByteArray) : Any P (Conv.stringToRunes elem s) := by
 unfold Conv.stringToRunes
 repeat' first | (with_reducible refine any_bind ?_ (fun _ => ?_)) | (with_reducible refine any_map ?_) | (simp; done) | (split) | (with_reducible intro _) | (dsimp only) | (refine any_forIn_range (fun _ _ => ?_) _ _) | (refine any_forIn_list (fun _ _ => ?_) _ _) | (refine any_forIn_array (fun _ _ => ?_) _ _) | (refine any_foldlM (fun _ _ => ?_) _ _) | (refine any_mapM_array (fun _ => ?_) _) | (refine any_forIn'_range _ _ (fun _ _ _ => ?_) _)
@[simp] theorem any_Conv_runesToString (x : Value) : Any P (Conv.runesToString x) := by
 unfold Conv.runesToString
 repeat' first | (with_reducible refine any_bind ?_ (fun _ => ?_)) | (with_reducible refine any_map ?_) | (simp; done) | (split) | (with_reducible intro _) | (dsimp only) | (refine any_forIn_range (fun _ _ => ?_) _ _) | (refine any_forIn_list (fun _ _ => ?_) _ _) | (refine any_forIn_array (fun _ _ => ?_) _ _) | (refine any_foldlM (fun _ _ => ?_) _ _) | (refine any_mapM_array (fun _ => ?_) _) | (refine any_forIn'_range _ _ (fun _ _ _ => ?_) _)
@[simp] theorem any_Op_equalIn : ∀ (d : Nat) (t : TypeId) (x y : Value), Any P (Op.equalIn d t x y)
 | 0, _, _, _ => any_unsupported _
 | d + 1, t, x, y => by
   unfold Op.equalIn
   have ih := fun t x y => any_Op_equalIn d t x y
   repeat' first | (with_reducible refine any_bind ?_ (fun _ => ?_)) | (simp [ih]; done) | (split) | (with_reducible intro _) | (dsimp only) | (refine any_forIn_range (fun _ _ => ?_) _ _) | (refine any_forIn_list (fun _ _ => ?_) _ _) | (refine any_forIn_array (fun _ _ => ?_) _ _)
@[simp] theorem any_Op_equal (t : TypeId) (x y : Value) : Any P (Op.equal t x y) := by
 unfold Op.equal
 repeat' first | (with_reducible refine any_bind ?_ (fun _ => ?_)) | (with_reducible refine any_map ?_) | (simp; done) | (split) | (with_reducible intro _) | (dsimp only) | (refine any_forIn_range (fun _ _ => ?_) _ _) | (refine any_forIn_list (fun _ _ => ?_) _ _) | (refine any_forIn_array (fun _ _ => ?_) _ _) | (refine any_foldlM (fun _ _ => ?_) _ _) | (refine any_mapM_array (fun _ => ?_) _) | (refine any_forIn'_range _ _ (fun _ _ _ => ?_) _)
@[simp] theorem any_Op_eqGuardIn : ∀ (d : Nat) (t : TypeId) (x y : Value), Any P (Op.eqGuardIn d t x y)
 | 0, _, _, _ => any_unsupported _
 | d + 1, t, x, y => by
   unfold Op.eqGuardIn
   have ih := fun t x y => any_Op_eqGuardIn d t x y
   repeat' first | (with_reducible refine any_bind ?_ (fun _ => ?_)) | (simp [ih]; done) | (split) | (with_reducible intro _) | (dsimp only) | (refine any_forIn_range (fun _ _ => ?_) _ _) | (refine any_forIn_list (fun _ _ => ?_) _ _) | (refine any_forIn_array (fun _ _ => ?_) _ _)
@[simp] theorem any_Instr_sliceBound (x : Value) (y : Nat) (code : BoundsCode) : Any P (Instr.sliceBound x y code) := by
 unfold Instr.sliceBound
 repeat' first | (with_reducible refine any_bind ?_ (fun _ => ?_)) | (with_reducible refine any_map ?_) | (simp; done) | (split) | (with_reducible intro _) | (dsimp only) | (refine any_forIn_range (fun _ _ => ?_) _ _) | (refine any_forIn_list (fun _ _ => ?_) _ _) | (refine any_forIn_array (fun _ _ => ?_) _ _) | (refine any_foldlM (fun _ _ => ?_) _ _) | (refine any_mapM_array (fun _ => ?_) _) | (refine any_forIn'_range _ _ (fun _ _ _ => ?_) _)
@[simp] theorem any_Instr_sliceBounds (isSlice : Bool) (len cap : Nat) (low high max : Option Value) : Any P (Instr.sliceBounds isSlice len cap low high max) := by
 unfold Instr.sliceBounds
 repeat' first | (with_reducible refine any_bind ?_ (fun _ => ?_)) | (with_reducible refine any_map ?_) | (simp; done) | (split) | (with_reducible intro _) | (dsimp only) | (refine any_forIn_range (fun _ _ => ?_) _ _) | (refine any_forIn_list (fun _ _ => ?_) _ _) | (refine any_forIn_array (fun _ _ => ?_) _ _) | (refine any_foldlM (fun _ _ => ?_) _ _) | (refine any_mapM_array (fun _ => ?_) _) | (refine any_forIn'_range _ _ (fun _ _ _ => ?_) _)
@[simp] theorem any_Instr_slice (xType : TypeId) (x : Value) (low high max : Option Value) : Any P (Instr.slice xType x low high max) := by
 unfold Instr.slice
 repeat' first | (with_reducible refine any_bind ?_ (fun _ => ?_)) | (with_reducible refine any_map ?_) | (simp; done) | (split) | (with_reducible intro _) | (dsimp only) | (refine any_forIn_range (fun _ _ => ?_) _ _) | (refine any_forIn_list (fun _ _ => ?_) _ _) | (refine any_forIn_array (fun _ _ => ?_) _ _) | (refine any_foldlM (fun _ _ => ?_) _ _) | (refine any_mapM_array (fun _ => ?_) _) | (refine any_forIn'_range _ _ (fun _ _ _ => ?_) _)
@[simp] theorem any_Instr_sureAddr  (v1 : Value) : Any P (Instr.sureAddr v1) := by
 unfold Instr.sureAddr
 repeat' first | (with_reducible refine any_bind ?_ (fun _ => ?_)) | (with_reducible refine any_map ?_) | (simp; done) | (split) | (with_reducible intro _) | (dsimp only) | (refine any_forIn_range (fun _ _ => ?_) _ _) | (refine any_forIn_list (fun _ _ => ?_) _ _) | (refine any_forIn_array (fun _ _ => ?_) _ _) | (refine any_foldlM (fun _ _ => ?_) _ _) | (refine any_mapM_array (fun _ => ?_) _) | (refine any_forIn'_range _ _ (fun _ _ _ => ?_) _)
@[simp] theorem any_Instr_loadAt (t : TypeId) (addr : Value) : Any P (Instr.loadAt t addr) := by
 unfold Instr.loadAt
 repeat' first | (with_reducible refine any_bind ?_ (fun _ => ?_)) | (with_reducible refine any_map ?_) | (simp; done) | (split) | (with_reducible intro _) | (dsimp only) | (refine any_forIn_range (fun _ _ => ?_) _ _) | (refine any_forIn_list (fun _ _ => ?_) _ _) | (refine any_forIn_array (fun _ _ => ?_) _ _) | (refine any_foldlM (fun _ _ => ?_) _ _) | (refine any_mapM_array (fun _ => ?_) _) | (refine any_forIn'_range _ _ (fun _ _ _ => ?_) _)
@[simp] theorem any_Instr_storeAt (t : TypeId) (addr val : Value) : Any P (Instr.storeAt t addr val) := by
 unfold Instr.storeAt
 repeat' first | (with_reducible refine any_bind ?_ (fun _ => ?_)) | (with_reducible refine any_map ?_) | (simp; done) | (split) | (with_reducible intro _) | (dsimp only) | (refine any_forIn_range (fun _ _ => ?_) _ _) | (refine any_forIn_list (fun _ _ => ?_) _ _) | (refine any_forIn_array (fun _ _ => ?_) _ _) | (refine any_foldlM (fun _ _ => ?_) _ _) | (refine any_mapM_array (fun _ => ?_) _) | (refine any_forIn'_range _ _ (fun _ _ _ => ?_) _)
@[simp] theorem any_Instr_fieldAt (s : TypeId) (addr : Value) (field : Nat) : Any P (Instr.fieldAt s addr field) := by
 unfold Instr.fieldAt
 repeat' first | (with_reducible refine any_bind ?_ (fun _ => ?_)) | (with_reducible refine any_map ?_) | (simp; done) | (split) | (with_reducible intro _) | (dsimp only) | (refine any_forIn_range (fun _ _ => ?_) _ _) | (refine any_forIn_list (fun _ _ => ?_) _ _) | (refine any_forIn_array (fun _ _ => ?_) _ _) | (refine any_foldlM (fun _ _ => ?_) _ _) | (refine any_mapM_array (fun _ => ?_) _) | (refine any_forIn'_range _ _ (fun _ _ _ => ?_) _)
@[simp] theorem any_Instr_indexAt (t : TypeId) (x index : Value) : Any P (Instr.indexAt t x index) := by
 unfold Instr.indexAt
 repeat' first | (with_reducible refine any_bind ?_ (fun _ => ?_)) | (with_reducible refine any_map ?_) | (simp; done) | (split) | (with_reducible intro _) | (dsimp only) | (refine any_forIn_range (fun _ _ => ?_) _ _) | (refine any_forIn_list (fun _ _ => ?_) _ _) | (refine any_forIn_array (fun _ _ => ?_) _ _) | (refine any_foldlM (fun _ _ => ?_) _ _) | (refine any_mapM_array (fun _ => ?_) _) | (refine any_forIn'_range _ _ (fun _ _ _ => ?_) _)
@[simp] theorem any_Instr_sliceAt (t : TypeId) (x : Value) (low high max : Option Value) : Any P (Instr.sliceAt t x low high max) := by
 unfold Instr.sliceAt
 repeat' first | (with_reducible refine any_bind ?_ (fun _ => ?_)) | (with_reducible refine any_map ?_) | (simp; done) | (split) | (with_reducible intro _) | (dsimp only) | (refine any_forIn_range (fun _ _ => ?_) _ _) | (refine any_forIn_list (fun _ _ => ?_) _ _) | (refine any_forIn_array (fun _ _ => ?_) _ _) | (refine any_foldlM (fun _ _ => ?_) _ _) | (refine any_mapM_array (fun _ => ?_) _) | (refine any_forIn'_range _ _ (fun _ _ _ => ?_) _)
@[simp] theorem any_Instr_arrayAt (arr : TypeId) (x : Value) : Any P (Instr.arrayAt arr x) := by
 unfold Instr.arrayAt
 repeat' first | (with_reducible refine any_bind ?_ (fun _ => ?_)) | (with_reducible refine any_map ?_) | (simp; done) | (split) | (with_reducible intro _) | (dsimp only) | (refine any_forIn_range (fun _ _ => ?_) _ _) | (refine any_forIn_list (fun _ _ => ?_) _ _) | (refine any_forIn_array (fun _ _ => ?_) _ _) | (refine any_foldlM (fun _ _ => ?_) _ _) | (refine any_mapM_array (fun _ => ?_) _) | (refine any_forIn'_range _ _ (fun _ _ _ => ?_) _)
@[simp] theorem any_Instr_alloc (elem : TypeId) (heap : Bool) (old : Value) : Any P (Instr.alloc elem heap old) := by
 unfold Instr.alloc
 repeat' first | (with_reducible refine any_bind ?_ (fun _ => ?_)) | (with_reducible refine any_map ?_) | (simp; done) | (split) | (with_reducible intro _) | (dsimp only) | (refine any_forIn_range (fun _ _ => ?_) _ _) | (refine any_forIn_list (fun _ _ => ?_) _ _) | (refine any_forIn_array (fun _ _ => ?_) _ _) | (refine any_foldlM (fun _ _ => ?_) _ _) | (refine any_mapM_array (fun _ => ?_) _) | (refine any_forIn'_range _ _ (fun _ _ _ => ?_) _)
@[simp] theorem any_Instr_box (elem : TypeId) (v : Value) : Any P (Instr.box elem v) := by
 unfold Instr.box
 repeat' first | (with_reducible refine any_bind ?_ (fun _ => ?_)) | (with_reducible refine any_map ?_) | (simp; done) | (split) | (with_reducible intro _) | (dsimp only) | (refine any_forIn_range (fun _ _ => ?_) _ _) | (refine any_forIn_list (fun _ _ => ?_) _ _) | (refine any_forIn_array (fun _ _ => ?_) _ _) | (refine any_foldlM (fun _ _ => ?_) _ _) | (refine any_mapM_array (fun _ => ?_) _) | (refine any_forIn'_range _ _ (fun _ _ _ => ?_) _)
@[simp] theorem any_Instr_build (t : TypeId) (parts : Array (Nat × Value)) : Any P (Instr.build t parts) := by
 unfold Instr.build
 repeat' first | (with_reducible refine any_bind ?_ (fun _ => ?_)) | (with_reducible refine any_map ?_) | (simp; done) | (split) | (with_reducible intro _) | (dsimp only) | (refine any_forIn_range (fun _ _ => ?_) _ _) | (refine any_forIn_list (fun _ _ => ?_) _ _) | (refine any_forIn_array (fun _ _ => ?_) _ _) | (refine any_foldlM (fun _ _ => ?_) _ _) | (refine any_mapM_array (fun _ => ?_) _) | (refine any_forIn'_range _ _ (fun _ _ _ => ?_) _)
@[simp] theorem any_Instr_buildSlice (t : TypeId) (len : Nat) (parts : Array (Nat × Value)) : Any P (Instr.buildSlice t len parts) := by
 unfold Instr.buildSlice
 repeat' first | (with_reducible refine any_bind ?_ (fun _ => ?_)) | (with_reducible refine any_map ?_) | (simp; done) | (split) | (with_reducible intro _) | (dsimp only) | (refine any_forIn_range (fun _ _ => ?_) _ _) | (refine any_forIn_list (fun _ _ => ?_) _ _) | (refine any_forIn_array (fun _ _ => ?_) _ _) | (refine any_foldlM (fun _ _ => ?_) _ _) | (refine any_mapM_array (fun _ => ?_) _) | (refine any_forIn'_range _ _ (fun _ _ _ => ?_) _)
@[simp] theorem any_Instr_waits (g : Nat) : Any P (Instr.waits g) := by
 unfold Instr.waits
 repeat' first | (with_reducible refine any_bind ?_ (fun _ => ?_)) | (with_reducible refine any_map ?_) | (simp; done) | (split) | (with_reducible intro _) | (dsimp only) | (refine any_forIn_range (fun _ _ => ?_) _ _) | (refine any_forIn_list (fun _ _ => ?_) _ _) | (refine any_forIn_array (fun _ _ => ?_) _ _) | (refine any_foldlM (fun _ _ => ?_) _ _) | (refine any_mapM_array (fun _ => ?_) _) | (refine any_forIn'_range _ _ (fun _ _ _ => ?_) _)
@[simp] theorem any_Instr_ready (g : Nat) : Any P (Instr.ready g) := by
 unfold Instr.ready
 repeat' first | (with_reducible refine any_bind ?_ (fun _ => ?_)) | (with_reducible refine any_map ?_) | (simp; done) | (split) | (with_reducible intro _) | (dsimp only) | (refine any_forIn_range (fun _ _ => ?_) _ _) | (refine any_forIn_list (fun _ _ => ?_) _ _) | (refine any_forIn_array (fun _ _ => ?_) _ _) | (refine any_foldlM (fun _ _ => ?_) _ _) | (refine any_mapM_array (fun _ => ?_) _) | (refine any_forIn'_range _ _ (fun _ _ _ => ?_) _)
@[simp] theorem any_Instr_makeInterface (xType : TypeId) (x : Value) : Any P (Instr.makeInterface xType x) := by
 unfold Instr.makeInterface
 repeat' first | (with_reducible refine any_bind ?_ (fun _ => ?_)) | (with_reducible refine any_map ?_) | (simp; done) | (split) | (with_reducible intro _) | (dsimp only) | (refine any_forIn_range (fun _ _ => ?_) _ _) | (refine any_forIn_list (fun _ _ => ?_) _ _) | (refine any_forIn_array (fun _ _ => ?_) _ _) | (refine any_foldlM (fun _ _ => ?_) _ _) | (refine any_mapM_array (fun _ => ?_) _) | (refine any_forIn'_range _ _ (fun _ _ _ => ?_) _)
@[simp] theorem any_Instr_makeFunc (fn : Fn) (first captured : Array Value) : Any P (Instr.makeFunc fn first captured) := by
 unfold Instr.makeFunc
 repeat' first | (with_reducible refine any_bind ?_ (fun _ => ?_)) | (with_reducible refine any_map ?_) | (simp; done) | (split) | (with_reducible intro _) | (dsimp only) | (refine any_forIn_range (fun _ _ => ?_) _ _) | (refine any_forIn_list (fun _ _ => ?_) _ _) | (refine any_forIn_array (fun _ _ => ?_) _ _) | (refine any_foldlM (fun _ _ => ?_) _ _) | (refine any_mapM_array (fun _ => ?_) _) | (refine any_forIn'_range _ _ (fun _ _ _ => ?_) _)
@[simp] theorem any_Instr_makeMap (t : TypeId) (reserve : Option Value) : Any P (Instr.makeMap t reserve) := by
 unfold Instr.makeMap
 repeat' first | (with_reducible refine any_bind ?_ (fun _ => ?_)) | (with_reducible refine any_map ?_) | (simp; done) | (split) | (with_reducible intro _) | (dsimp only) | (refine any_forIn_range (fun _ _ => ?_) _ _) | (refine any_forIn_list (fun _ _ => ?_) _ _) | (refine any_forIn_array (fun _ _ => ?_) _ _) | (refine any_foldlM (fun _ _ => ?_) _ _) | (refine any_mapM_array (fun _ => ?_) _) | (refine any_forIn'_range _ _ (fun _ _ _ => ?_) _)
@[simp] theorem any_Instr_makeChan (t : TypeId) (size : Value) : Any P (Instr.makeChan t size) := by
 unfold Instr.makeChan
 repeat' first | (with_reducible refine any_bind ?_ (fun _ => ?_)) | (with_reducible refine any_map ?_) | (simp; done) | (split) | (with_reducible intro _) | (dsimp only) | (refine any_forIn_range (fun _ _ => ?_) _ _) | (refine any_forIn_list (fun _ _ => ?_) _ _) | (refine any_forIn_array (fun _ _ => ?_) _ _) | (refine any_foldlM (fun _ _ => ?_) _ _) | (refine any_mapM_array (fun _ => ?_) _) | (refine any_forIn'_range _ _ (fun _ _ _ => ?_) _)
@[simp] theorem any_Instr_makeSlice (t : TypeId) (len cap : Value) : Any P (Instr.makeSlice t len cap) := by
 unfold Instr.makeSlice
 repeat' first | (with_reducible refine any_bind ?_ (fun _ => ?_)) | (with_reducible refine any_map ?_) | (simp; done) | (split) | (with_reducible intro _) | (dsimp only) | (refine any_forIn_range (fun _ _ => ?_) _ _) | (refine any_forIn_list (fun _ _ => ?_) _ _) | (refine any_forIn_array (fun _ _ => ?_) _ _) | (refine any_foldlM (fun _ _ => ?_) _ _) | (refine any_mapM_array (fun _ => ?_) _) | (refine any_forIn'_range _ _ (fun _ _ _ => ?_) _)
@[simp] theorem any_Instr_field (xType : TypeId) (x : Value) (field : Nat) : Any P (Instr.field xType x field) := by
 unfold Instr.field
 repeat' first | (with_reducible refine any_bind ?_ (fun _ => ?_)) | (with_reducible refine any_map ?_) | (simp; done) | (split) | (with_reducible intro _) | (dsimp only) | (refine any_forIn_range (fun _ _ => ?_) _ _) | (refine any_forIn_list (fun _ _ => ?_) _ _) | (refine any_forIn_array (fun _ _ => ?_) _ _) | (refine any_foldlM (fun _ _ => ?_) _ _) | (refine any_mapM_array (fun _ => ?_) _) | (refine any_forIn'_range _ _ (fun _ _ _ => ?_) _)
@[simp] theorem any_Instr_index (xType : TypeId) (x index : Value) : Any P (Instr.index xType x index) := by
 unfold Instr.index
 repeat' first | (with_reducible refine any_bind ?_ (fun _ => ?_)) | (with_reducible refine any_map ?_) | (simp; done) | (split) | (with_reducible intro _) | (dsimp only) | (refine any_forIn_range (fun _ _ => ?_) _ _) | (refine any_forIn_list (fun _ _ => ?_) _ _) | (refine any_forIn_array (fun _ _ => ?_) _ _) | (refine any_foldlM (fun _ _ => ?_) _ _) | (refine any_mapM_array (fun _ => ?_) _) | (refine any_forIn'_range _ _ (fun _ _ _ => ?_) _)
@[simp] theorem any_Instr_checkKey (e : Bool) : ∀ (d : Nat) (t : TypeId) (x : Value), Any P (Instr.checkKey e d t x)
 | 0, _, _ => any_unsupported _
 | d + 1, t, x => by
   unfold Instr.checkKey
   have ih := fun t x => any_Instr_checkKey e d t x
   repeat' first | (with_reducible refine any_bind ?_ (fun _ => ?_)) | (simp [ih]; done) | (split) | (with_reducible intro _) | (dsimp only) | (refine any_forIn_range (fun _ _ => ?_) _ _) | (refine any_forIn_list (fun _ _ => ?_) _ _) | (refine any_forIn_array (fun _ _ => ?_) _ _)
@[simp] theorem any_Instr_findAsking (t : TypeId) (k : Value) : ∀ (l : List MapEntry) (i : Nat), Any P (Instr.findAsking t k l i)
 | [], _ => any_pure _
 | e :: es, i => by
   unfold Instr.findAsking
   have ih := fun i => any_Instr_findAsking t k es i
   repeat' first | (with_reducible refine any_bind ?_ (fun _ => ?_)) | (simp [ih]; done) | (split) | (with_reducible intro _) | (dsimp only)
@[simp] theorem any_Instr_findKey (keyType : TypeId) (k : Value) (es : List MapEntry) : Any P (Instr.findKey keyType k es) := by
 unfold Instr.findKey
 repeat' first | (with_reducible refine any_bind ?_ (fun _ => ?_)) | (with_reducible refine any_map ?_) | (simp; done) | (split) | (with_reducible intro _) | (dsimp only) | (refine any_forIn_range (fun _ _ => ?_) _ _) | (refine any_forIn_list (fun _ _ => ?_) _ _) | (refine any_forIn_array (fun _ _ => ?_) _ _) | (refine any_foldlM (fun _ _ => ?_) _ _) | (refine any_mapM_array (fun _ => ?_) _) | (refine any_forIn'_range _ _ (fun _ _ _ => ?_) _)
@[simp] theorem any_Instr_lookup (xType : TypeId) (x index : Value) (commaOk : Bool) : Any P (Instr.lookup xType x index commaOk) := by
 unfold Instr.lookup
 repeat' first | (with_reducible refine any_bind ?_ (fun _ => ?_)) | (with_reducible refine any_map ?_) | (simp; done) | (split) | (with_reducible intro _) | (dsimp only) | (refine any_forIn_range (fun _ _ => ?_) _ _) | (refine any_forIn_list (fun _ _ => ?_) _ _) | (refine any_forIn_array (fun _ _ => ?_) _ _) | (refine any_foldlM (fun _ _ => ?_) _ _) | (refine any_mapM_array (fun _ => ?_) _) | (refine any_forIn'_range _ _ (fun _ _ _ => ?_) _)
@[simp] theorem any_Instr_keyThatStays (old new : Value) : Any P (Instr.keyThatStays old new) := by
 unfold Instr.keyThatStays
 repeat' first | (with_reducible refine any_bind ?_ (fun _ => ?_)) | (with_reducible refine any_map ?_) | (simp; done) | (split) | (with_reducible intro _) | (dsimp only) | (refine any_forIn_range (fun _ _ => ?_) _ _) | (refine any_forIn_list (fun _ _ => ?_) _ _) | (refine any_forIn_array (fun _ _ => ?_) _ _) | (refine any_foldlM (fun _ _ => ?_) _ _) | (refine any_mapM_array (fun _ => ?_) _) | (refine any_forIn'_range _ _ (fun _ _ _ => ?_) _)
@[simp] theorem any_Instr_mapUpdate (mapType : TypeId) (map key value : Value) : Any P (Instr.mapUpdate mapType map key value) := by
 unfold Instr.mapUpdate
 repeat' first | (with_reducible refine any_bind ?_ (fun _ => ?_)) | (with_reducible refine any_map ?_) | (simp; done) | (split) | (with_reducible intro _) | (dsimp only) | (refine any_forIn_range (fun _ _ => ?_) _ _) | (refine any_forIn_list (fun _ _ => ?_) _ _) | (refine any_forIn_array (fun _ _ => ?_) _ _) | (refine any_foldlM (fun _ _ => ?_) _ _) | (refine any_mapM_array (fun _ => ?_) _) | (refine any_forIn'_range _ _ (fun _ _ _ => ?_) _)
@[simp] theorem any_Instr_mapEntry (mapType : TypeId) (map key : Value) : Any P (Instr.mapEntry mapType map key) := by
 unfold Instr.mapEntry
 repeat' first | (with_reducible refine any_bind ?_ (fun _ => ?_)) | (with_reducible refine any_map ?_) | (simp; done) | (split) | (with_reducible intro _) | (dsimp only) | (refine any_forIn_range (fun _ _ => ?_) _ _) | (refine any_forIn_list (fun _ _ => ?_) _ _) | (refine any_forIn_array (fun _ _ => ?_) _ _) | (refine any_foldlM (fun _ _ => ?_) _ _) | (refine any_mapM_array (fun _ => ?_) _) | (refine any_forIn'_range _ _ (fun _ _ _ => ?_) _)
@[simp] theorem any_Instr_entryStore (_mapType : TypeId) (map stamp value : Value) : Any P (Instr.entryStore _mapType map stamp value) := by
 unfold Instr.entryStore
 repeat' first | (with_reducible refine any_bind ?_ (fun _ => ?_)) | (with_reducible refine any_map ?_) | (simp; done) | (split) | (with_reducible intro _) | (dsimp only) | (refine any_forIn_range (fun _ _ => ?_) _ _) | (refine any_forIn_list (fun _ _ => ?_) _ _) | (refine any_forIn_array (fun _ _ => ?_) _ _) | (refine any_foldlM (fun _ _ => ?_) _ _) | (refine any_mapM_array (fun _ => ?_) _) | (refine any_forIn'_range _ _ (fun _ _ _ => ?_) _)
@[simp] theorem any_Instr_range (xType : TypeId) (x : Value) : Any P (Instr.range xType x) := by
 unfold Instr.range
 repeat' first | (with_reducible refine any_bind ?_ (fun _ => ?_)) | (with_reducible refine any_map ?_) | (simp; done) | (split) | (with_reducible intro _) | (dsimp only) | (refine any_forIn_range (fun _ _ => ?_) _ _) | (refine any_forIn_list (fun _ _ => ?_) _ _) | (refine any_forIn_array (fun _ _ => ?_) _ _) | (refine any_foldlM (fun _ _ => ?_) _ _) | (refine any_mapM_array (fun _ => ?_) _) | (refine any_forIn'_range _ _ (fun _ _ _ => ?_) _)
@[simp] theorem any_Instr_next (iter : Value) (isString : Bool) (_type : TypeId) : Any P (Instr.next iter isString _type) := by
 unfold Instr.next
 repeat' first | (with_reducible refine any_bind ?_ (fun _ => ?_)) | (with_reducible refine any_map ?_) | (simp; done) | (split) | (with_reducible intro _) | (dsimp only) | (refine any_forIn_range (fun _ _ => ?_) _ _) | (refine any_forIn_list (fun _ _ => ?_) _ _) | (refine any_forIn_array (fun _ _ => ?_) _ _) | (refine any_foldlM (fun _ _ => ?_) _ _) | (refine any_mapM_array (fun _ => ?_) _) | (refine any_forIn'_range _ _ (fun _ _ _ => ?_) _)
@[simp] theorem any_Instr_entry (iter : Value) : Any P (Instr.entry iter) := by
 unfold Instr.entry
 repeat' first | (with_reducible refine any_bind ?_ (fun _ => ?_)) | (with_reducible refine any_map ?_) | (simp; done) | (split) | (with_reducible intro _) | (dsimp only) | (refine any_forIn_range (fun _ _ => ?_) _ _) | (refine any_forIn_list (fun _ _ => ?_) _ _) | (refine any_forIn_array (fun _ _ => ?_) _ _) | (refine any_foldlM (fun _ _ => ?_) _ _) | (refine any_mapM_array (fun _ => ?_) _) | (refine any_forIn'_range _ _ (fun _ _ _ => ?_) _)
@[simp] theorem any_Instr_getLoop (l : Nat) : Any P (Instr.getLoop l) := by
 unfold Instr.getLoop
 repeat' first | (with_reducible refine any_bind ?_ (fun _ => ?_)) | (with_reducible refine any_map ?_) | (simp; done) | (split) | (with_reducible intro _) | (dsimp only) | (refine any_forIn_range (fun _ _ => ?_) _ _) | (refine any_forIn_list (fun _ _ => ?_) _ _) | (refine any_forIn_array (fun _ _ => ?_) _ _) | (refine any_foldlM (fun _ _ => ?_) _ _) | (refine any_mapM_array (fun _ => ?_) _) | (refine any_forIn'_range _ _ (fun _ _ _ => ?_) _)
@[simp] theorem any_Instr_enterLoop (fn : FuncId) (tmps : Array Value) (params : Array Tmp) (assign body : Code) (around : Option Nat) : Any P (Instr.enterLoop fn tmps params assign body around) := by
 unfold Instr.enterLoop
 repeat' first | (with_reducible refine any_bind ?_ (fun _ => ?_)) | (with_reducible refine any_map ?_) | (simp; done) | (split) | (with_reducible intro _) | (dsimp only) | (refine any_forIn_range (fun _ _ => ?_) _ _) | (refine any_forIn_list (fun _ _ => ?_) _ _) | (refine any_forIn_array (fun _ _ => ?_) _ _) | (refine any_foldlM (fun _ _ => ?_) _ _) | (refine any_mapM_array (fun _ => ?_) _) | (refine any_forIn'_range _ _ (fun _ _ _ => ?_) _)
@[simp] theorem any_Instr_beginRound (l : Nat) : Any P (Instr.beginRound l) := by
 unfold Instr.beginRound
 repeat' first | (with_reducible refine any_bind ?_ (fun _ => ?_)) | (with_reducible refine any_map ?_) | (simp; done) | (split) | (with_reducible intro _) | (dsimp only) | (refine any_forIn_range (fun _ _ => ?_) _ _) | (refine any_forIn_list (fun _ _ => ?_) _ _) | (refine any_forIn_array (fun _ _ => ?_) _ _) | (refine any_foldlM (fun _ _ => ?_) _ _) | (refine any_mapM_array (fun _ => ?_) _) | (refine any_forIn'_range _ _ (fun _ _ _ => ?_) _)
@[simp] theorem any_Instr_endRound (l : Nat) (jump : Option Code) : Any P (Instr.endRound l jump) := by
 unfold Instr.endRound
 repeat' first | (with_reducible refine any_bind ?_ (fun _ => ?_)) | (with_reducible refine any_map ?_) | (simp; done) | (split) | (with_reducible intro _) | (dsimp only) | (refine any_forIn_range (fun _ _ => ?_) _ _) | (refine any_forIn_list (fun _ _ => ?_) _ _) | (refine any_forIn_array (fun _ _ => ?_) _ _) | (refine any_foldlM (fun _ _ => ?_) _ _) | (refine any_mapM_array (fun _ => ?_) _) | (refine any_forIn'_range _ _ (fun _ _ _ => ?_) _)
@[simp] theorem any_Instr_endLoop (l : Nat) : Any P (Instr.endLoop l) := by
 unfold Instr.endLoop
 repeat' first | (with_reducible refine any_bind ?_ (fun _ => ?_)) | (with_reducible refine any_map ?_) | (simp; done) | (split) | (with_reducible intro _) | (dsimp only) | (refine any_forIn_range (fun _ _ => ?_) _ _) | (refine any_forIn_list (fun _ _ => ?_) _ _) | (refine any_forIn_array (fun _ _ => ?_) _ _) | (refine any_foldlM (fun _ _ => ?_) _ _) | (refine any_mapM_array (fun _ => ?_) _) | (refine any_forIn'_range _ _ (fun _ _ _ => ?_) _)
@[simp] theorem any_Instr_deferInRound (l : Nat) (d : Deferred) : Any P (Instr.deferInRound l d) := by
 unfold Instr.deferInRound
 repeat' first | (with_reducible refine any_bind ?_ (fun _ => ?_)) | (with_reducible refine any_map ?_) | (simp; done) | (split) | (with_reducible intro _) | (dsimp only) | (refine any_forIn_range (fun _ _ => ?_) _ _) | (refine any_forIn_list (fun _ _ => ?_) _ _) | (refine any_forIn_array (fun _ _ => ?_) _ _) | (refine any_foldlM (fun _ _ => ?_) _ _) | (refine any_mapM_array (fun _ => ?_) _) | (refine any_forIn'_range _ _ (fun _ _ _ => ?_) _)
@[simp] theorem any_Instr_takeDeferred (block : Nat) : Any P (Instr.takeDeferred block) := by
 unfold Instr.takeDeferred
 repeat' first | (with_reducible refine any_bind ?_ (fun _ => ?_)) | (with_reducible refine any_map ?_) | (simp; done) | (split) | (with_reducible intro _) | (dsimp only) | (refine any_forIn_range (fun _ _ => ?_) _ _) | (refine any_forIn_list (fun _ _ => ?_) _ _) | (refine any_forIn_array (fun _ _ => ?_) _ _) | (refine any_foldlM (fun _ _ => ?_) _ _) | (refine any_mapM_array (fun _ => ?_) _) | (refine any_forIn'_range _ _ (fun _ _ _ => ?_) _)
@[simp] theorem any_Builtin_ssaWrapNilChk (t : Array TypeId) (ty : TypeId) (args : Array Value) : Any P (Builtin.ssaWrapNilChk_ t ty args) := by
 unfold Builtin.ssaWrapNilChk_
 rcases args with ⟨_ | ⟨a, _ | ⟨b, _ | ⟨c, _ | ⟨d, l⟩⟩⟩⟩⟩
 all_goals try exact any_stuck _
 all_goals (cases b <;> try exact any_stuck _)
 all_goals (cases c <;> try exact any_stuck _)
 all_goals (cases a <;> try exact any_stuck _)
 rename_i o
 cases o
 all_goals (repeat' first | (with_reducible refine any_bind ?_ (fun _ => ?_)) | (with_reducible refine any_map ?_) | (simp; done) | (with_reducible intro _) | exact any_stuck _ | exact any_unsupported _ | exact any_runtimePanic _ | exact any_pure _ | (refine any_bind ?_ (fun _ => ?_)) | (refine any_ite (fun _ => ?_) (fun _ => ?_)) | (split) | (dsimp only))
@[simp] theorem any_Place_get (t : TypeId) (v1 : Place) : Any P (Place.get t v1) := by
 unfold Place.get
 repeat' first | (with_reducible refine any_bind ?_ (fun _ => ?_)) | (with_reducible refine any_map ?_) | (simp; done) | (split) | (with_reducible intro _) | (dsimp only) | (refine any_forIn_range (fun _ _ => ?_) _ _) | (refine any_forIn_list (fun _ _ => ?_) _ _) | (refine any_forIn_array (fun _ _ => ?_) _ _) | (refine any_foldlM (fun _ _ => ?_) _ _) | (refine any_mapM_array (fun _ => ?_) _) | (refine any_forIn'_range _ _ (fun _ _ _ => ?_) _)
@[simp] theorem any_follow : ∀ (l : List FieldStep) (t : TypeId) (p : Place), Any P (follow l t p)
 | [], _, _ => any_pure _
 | s :: l, t, p => by
   unfold follow
   have ih := fun t p => any_follow l t p
   repeat' first | (with_reducible refine any_bind ?_ (fun _ => ?_)) | (simp [ih]; done) | (split) | (with_reducible intro _) | (dsimp only)
@[simp] theorem any_receiverAt (xt : TypeId) (x : Place) (pointerReceiver : Bool) (wrapper : Option String) : Any P (receiverAt xt x pointerReceiver wrapper) := by
 unfold receiverAt
 repeat' first | (with_reducible refine any_bind ?_ (fun _ => ?_)) | (with_reducible refine any_map ?_) | (simp; done) | (split) | (with_reducible intro _) | (dsimp only) | (refine any_forIn_range (fun _ _ => ?_) _ _) | (refine any_forIn_list (fun _ _ => ?_) _ _) | (refine any_forIn_array (fun _ _ => ?_) _ _) | (refine any_foldlM (fun _ _ => ?_) _ _) | (refine any_mapM_array (fun _ => ?_) _) | (refine any_forIn'_range _ _ (fun _ _ _ => ?_) _)
@[simp] theorem any_receiverVia (t : TypeId) (v : Value) (path : Array FieldStep) (pointerReceiver : Bool) : Any P (receiverVia t v path pointerReceiver) := by
 unfold receiverVia
 repeat' first | (with_reducible refine any_bind ?_ (fun _ => ?_)) | (with_reducible refine any_map ?_) | (simp; done) | (split) | (with_reducible intro _) | (dsimp only) | (refine any_forIn_range (fun _ _ => ?_) _ _) | (refine any_forIn_list (fun _ _ => ?_) _ _) | (refine any_forIn_array (fun _ _ => ?_) _ _) | (refine any_foldlM (fun _ _ => ?_) _ _) | (refine any_mapM_array (fun _ => ?_) _) | (refine any_forIn'_range _ _ (fun _ _ _ => ?_) _)
@[simp] theorem any_method : ∀ (d : Nat) (t : TypeId) (v : Value) (s : String), Any P (method d t v s)
 | 0, _, _, _ => any_unsupported _
 | d + 1, t, v, s => by
   unfold method
   have ih := fun t v s => any_method d t v s
   repeat' first | (with_reducible refine any_bind ?_ (fun _ => ?_)) | (simp [ih]; done) | (split) | (with_reducible intro _) | (dsimp only)
@[simp] theorem any_followBlind : ∀ (l : List FieldStep) (t : TypeId) (p : Option Value), Any P (followBlind l t p)
 | [], _, _ => any_pure _
 | s :: l, t, p => by
   unfold followBlind
   have ih := fun t p => any_followBlind l t p
   repeat' first | (with_reducible refine any_bind ?_ (fun _ => ?_)) | (simp [ih]; done) | (split) | (with_reducible intro _) | (dsimp only)
@[simp] theorem any_nilAhead : ∀ (d : Nat) (t : TypeId) (v : Value) (s : String), Any P (nilAhead d t v s)
 | 0, _, _, _ => any_pure _
 | d + 1, t, v, s => by
   unfold nilAhead
   have ih := fun t v s => any_nilAhead d t v s
   repeat' first | (with_reducible refine any_bind ?_ (fun _ => ?_)) | (simp [ih]; done) | (split) | (with_reducible intro _) | (dsimp only)
@[simp] theorem any_Instr_typeAssert (x : Value) (xType asserted : TypeId) (commaOk : Bool) : Any P (Instr.typeAssert x xType asserted commaOk) := by
 unfold Instr.typeAssert
 repeat' first | (with_reducible refine any_bind ?_ (fun _ => ?_)) | (with_reducible refine any_map ?_) | (simp; done) | (split) | (with_reducible intro _) | (dsimp only) | (refine any_forIn_range (fun _ _ => ?_) _ _) | (refine any_forIn_list (fun _ _ => ?_) _ _) | (refine any_forIn_array (fun _ _ => ?_) _ _) | (refine any_foldlM (fun _ _ => ?_) _ _) | (refine any_mapM_array (fun _ => ?_) _) | (refine any_forIn'_range _ _ (fun _ _ _ => ?_) _)
@[simp] theorem any_Instr_extract (tuple : Value) (index : Nat) : Any P (Instr.extract tuple index) := by
 unfold Instr.extract
 repeat' first | (with_reducible refine any_bind ?_ (fun _ => ?_)) | (with_reducible refine any_map ?_) | (simp; done) | (split) | (with_reducible intro _) | (dsimp only) | (refine any_forIn_range (fun _ _ => ?_) _ _) | (refine any_forIn_list (fun _ _ => ?_) _ _) | (refine any_forIn_array (fun _ _ => ?_) _ _) | (refine any_foldlM (fun _ _ => ?_) _ _) | (refine any_mapM_array (fun _ => ?_) _) | (refine any_forIn'_range _ _ (fun _ _ _ => ?_) _)
@[simp] theorem any_Instr_panicnil : Any P Instr.panicnil := by
 unfold Instr.panicnil sys
 simp only [Bind.bind, Sem.bind]
 unfold Any Safe
 refine ⟨⟨.stuck "strings expected", trivial, rfl⟩, fun r _ => ?_⟩
 dsimp only
 cases r <;> first | exact any_stuck _ | exact any_bind any_program fun _ => any_pure _
@[simp] theorem any_Instr_panic (x : Value) : Any P (Instr.panic x) := by
 unfold Instr.panic
 repeat' first | (with_reducible refine any_bind ?_ (fun _ => ?_)) | (with_reducible refine any_map ?_) | (simp; done) | (split) | (with_reducible intro _) | (dsimp only) | (refine any_forIn_range (fun _ _ => ?_) _ _) | (refine any_forIn_list (fun _ _ => ?_) _ _) | (refine any_forIn_array (fun _ _ => ?_) _ _) | (refine any_foldlM (fun _ _ => ?_) _ _) | (refine any_mapM_array (fun _ => ?_) _) | (refine any_forIn'_range _ _ (fun _ _ _ => ?_) _)
@[simp] theorem any_Builtin_holdsCells (a : Addr) (cells : Nat) : Any P (Builtin.holdsCells a cells) := by
 unfold Builtin.holdsCells
 repeat' first | (with_reducible refine any_bind ?_ (fun _ => ?_)) | (with_reducible refine any_map ?_) | (simp; done) | (split) | (with_reducible intro _) | (dsimp only) | (refine any_forIn_range (fun _ _ => ?_) _ _) | (refine any_forIn_list (fun _ _ => ?_) _ _) | (refine any_forIn_array (fun _ _ => ?_) _ _) | (refine any_foldlM (fun _ _ => ?_) _ _) | (refine any_mapM_array (fun _ => ?_) _) | (refine any_forIn'_range _ _ (fun _ _ _ => ?_) _)
@[simp] theorem any_Builtin_mayShare (size sLen n : Nat) (base : Option Addr) (x : Value) : Any P (Builtin.mayShare size sLen n base x) := by
 unfold Builtin.mayShare
 repeat' first | (with_reducible refine any_bind ?_ (fun _ => ?_)) | (with_reducible refine any_map ?_) | (simp; done) | (split) | (with_reducible intro _) | (dsimp only) | (refine any_forIn_range (fun _ _ => ?_) _ _) | (refine any_forIn_list (fun _ _ => ?_) _ _) | (refine any_forIn_array (fun _ _ => ?_) _ _) | (refine any_foldlM (fun _ _ => ?_) _ _) | (refine any_mapM_array (fun _ => ?_) _) | (refine any_forIn'_range _ _ (fun _ _ _ => ?_) _)
@[simp] theorem any_Builtin_lenOf  (v1 : Value) : Any P (Builtin.lenOf v1) := by
 unfold Builtin.lenOf
 repeat' first | (with_reducible refine any_bind ?_ (fun _ => ?_)) | (with_reducible refine any_map ?_) | (simp; done) | (split) | (with_reducible intro _) | (dsimp only) | (refine any_forIn_range (fun _ _ => ?_) _ _) | (refine any_forIn_list (fun _ _ => ?_) _ _) | (refine any_forIn_array (fun _ _ => ?_) _ _) | (refine any_foldlM (fun _ _ => ?_) _ _) | (refine any_mapM_array (fun _ => ?_) _) | (refine any_forIn'_range _ _ (fun _ _ _ => ?_) _)
@[simp] theorem any_Builtin_firstCells (size n : Nat) (v1 : Value) : Any P (Builtin.firstCells size n v1) := by
 unfold Builtin.firstCells
 repeat' first | (with_reducible refine any_bind ?_ (fun _ => ?_)) | (with_reducible refine any_map ?_) | (simp; done) | (split) | (with_reducible intro _) | (dsimp only) | (refine any_forIn_range (fun _ _ => ?_) _ _) | (refine any_forIn_list (fun _ _ => ?_) _ _) | (refine any_forIn_array (fun _ _ => ?_) _ _) | (refine any_foldlM (fun _ _ => ?_) _ _) | (refine any_mapM_array (fun _ => ?_) _) | (refine any_forIn'_range _ _ (fun _ _ _ => ?_) _)
@[simp] theorem any_Builtin_append (t : Array TypeId) (ty : TypeId) (args : Array Value) : Any P (Builtin.append_ t ty args) := by
 unfold Builtin.append_
 dsimp only
 repeat' first | (with_reducible refine any_bind ?_ (fun _ => ?_)) | (with_reducible refine any_map ?_) | (simp; done) | (refine any_ite (fun _ => ?_) (fun _ => ?_)) | (split) | (with_reducible intro _) | (dsimp only)
@[simp] theorem any_Builtin_cap (argTypes : Array TypeId) (_type : TypeId) (args : Array Value) : Any P (Builtin.cap_ argTypes _type args) := by
 unfold Builtin.cap_
 repeat' first | (with_reducible refine any_bind ?_ (fun _ => ?_)) | (with_reducible refine any_map ?_) | (simp; done) | (split) | (with_reducible intro _) | (dsimp only) | (refine any_forIn_range (fun _ _ => ?_) _ _) | (refine any_forIn_list (fun _ _ => ?_) _ _) | (refine any_forIn_array (fun _ _ => ?_) _ _) | (refine any_foldlM (fun _ _ => ?_) _ _) | (refine any_mapM_array (fun _ => ?_) _) | (refine any_forIn'_range _ _ (fun _ _ _ => ?_) _)
@[simp] theorem any_Builtin_clear (argTypes : Array TypeId) (_type : TypeId) (args : Array Value) : Any P (Builtin.clear_ argTypes _type args) := by
 unfold Builtin.clear_
 repeat' first | (with_reducible refine any_bind ?_ (fun _ => ?_)) | (with_reducible refine any_map ?_) | (simp; done) | (split) | (with_reducible intro _) | (dsimp only) | (refine any_forIn_range (fun _ _ => ?_) _ _) | (refine any_forIn_list (fun _ _ => ?_) _ _) | (refine any_forIn_array (fun _ _ => ?_) _ _) | (refine any_foldlM (fun _ _ => ?_) _ _) | (refine any_mapM_array (fun _ => ?_) _) | (refine any_forIn'_range _ _ (fun _ _ _ => ?_) _)
@[simp] theorem any_Builtin_close (t : Array TypeId) (ty : TypeId) (args : Array Value) : Any P (Builtin.close_ t ty args) := by
 unfold Builtin.close_
 rcases args with ⟨_ | ⟨a, _ | ⟨b, l⟩⟩⟩
 all_goals try exact any_stuck _
 all_goals (cases a <;> try exact any_stuck _)
 all_goals (rename_i v; cases v)
 all_goals (repeat' first | (with_reducible refine any_bind ?_ (fun _ => ?_)) | (with_reducible refine any_map ?_) | (simp; done) | (with_reducible intro _) | exact any_stuck _ | exact any_unsupported _ | exact any_runtimePanic _ | exact any_pure _ | (refine any_bind ?_ (fun _ => ?_)) | (refine any_ite (fun _ => ?_) (fun _ => ?_)) | (split) | (dsimp only))
@[simp] theorem any_Builtin_complex (t : Array TypeId) (ty : TypeId) (args : Array Value) : Any P (Builtin.complex_ t ty args) := by
 unfold Builtin.complex_
 rcases args with ⟨_ | ⟨a, _ | ⟨b, _ | ⟨c, l⟩⟩⟩⟩
 all_goals try exact any_stuck _
 all_goals (cases a <;> try exact any_stuck _)
 all_goals (cases b <;> try exact any_stuck _)
 all_goals (repeat' first | (with_reducible refine any_bind ?_ (fun _ => ?_)) | (with_reducible refine any_map ?_) | (simp; done) | (with_reducible intro _) | exact any_stuck _ | exact any_unsupported _ | exact any_runtimePanic _ | exact any_pure _ | (refine any_bind ?_ (fun _ => ?_)) | (refine any_ite (fun _ => ?_) (fun _ => ?_)) | (split) | (dsimp only))
@[simp] theorem any_Builtin_copy (argTypes : Array TypeId) (_type : TypeId) (args : Array Value) : Any P (Builtin.copy_ argTypes _type args) := by
 unfold Builtin.copy_
 repeat' first | (with_reducible refine any_bind ?_ (fun _ => ?_)) | (with_reducible refine any_map ?_) | (simp; done) | (split) | (with_reducible intro _) | (dsimp only) | (refine any_forIn_range (fun _ _ => ?_) _ _) | (refine any_forIn_list (fun _ _ => ?_) _ _) | (refine any_forIn_array (fun _ _ => ?_) _ _) | (refine any_foldlM (fun _ _ => ?_) _ _) | (refine any_mapM_array (fun _ => ?_) _) | (refine any_forIn'_range _ _ (fun _ _ _ => ?_) _)
@[simp] theorem any_Builtin_delete (argTypes : Array TypeId) (_type : TypeId) (args : Array Value) : Any P (Builtin.delete_ argTypes _type args) := by
 unfold Builtin.delete_
 repeat' first | (with_reducible refine any_bind ?_ (fun _ => ?_)) | (with_reducible refine any_map ?_) | (simp; done) | (split) | (with_reducible intro _) | (dsimp only) | (refine any_forIn_range (fun _ _ => ?_) _ _) | (refine any_forIn_list (fun _ _ => ?_) _ _) | (refine any_forIn_array (fun _ _ => ?_) _ _) | (refine any_foldlM (fun _ _ => ?_) _ _) | (refine any_mapM_array (fun _ => ?_) _) | (refine any_forIn'_range _ _ (fun _ _ _ => ?_) _)
@[simp] theorem any_Builtin_imag (t : Array TypeId) (ty : TypeId) (args : Array Value) : Any P (Builtin.imag_ t ty args) := by
 unfold Builtin.imag_
 rcases args with ⟨_ | ⟨a, _ | ⟨b, l⟩⟩⟩
 all_goals try exact any_stuck _
 all_goals (cases a <;> try exact any_stuck _)
 all_goals (repeat' first | (with_reducible refine any_bind ?_ (fun _ => ?_)) | (with_reducible refine any_map ?_) | (simp; done) | (with_reducible intro _) | exact any_stuck _ | exact any_unsupported _ | exact any_runtimePanic _ | exact any_pure _ | (refine any_bind ?_ (fun _ => ?_)) | (refine any_ite (fun _ => ?_) (fun _ => ?_)) | (split) | (dsimp only))
@[simp] theorem any_Builtin_len (argTypes : Array TypeId) (_type : TypeId) (args : Array Value) : Any P (Builtin.len_ argTypes _type args) := by
 unfold Builtin.len_
 repeat' first | (with_reducible refine any_bind ?_ (fun _ => ?_)) | (with_reducible refine any_map ?_) | (simp; done) | (split) | (with_reducible intro _) | (dsimp only) | (refine any_forIn_range (fun _ _ => ?_) _ _) | (refine any_forIn_list (fun _ _ => ?_) _ _) | (refine any_forIn_array (fun _ _ => ?_) _ _) | (refine any_foldlM (fun _ _ => ?_) _ _) | (refine any_mapM_array (fun _ => ?_) _) | (refine any_forIn'_range _ _ (fun _ _ _ => ?_) _)
@[simp] theorem any_Builtin_max2  (v1 : Value) (v2 : Value) : Any P (Builtin.max2 v1 v2) := by
 unfold Builtin.max2
 repeat' first | (with_reducible refine any_bind ?_ (fun _ => ?_)) | (with_reducible refine any_map ?_) | (simp; done) | (split) | (with_reducible intro _) | (dsimp only) | (refine any_forIn_range (fun _ _ => ?_) _ _) | (refine any_forIn_list (fun _ _ => ?_) _ _) | (refine any_forIn_array (fun _ _ => ?_) _ _) | (refine any_foldlM (fun _ _ => ?_) _ _) | (refine any_mapM_array (fun _ => ?_) _) | (refine any_forIn'_range _ _ (fun _ _ _ => ?_) _)
@[simp] theorem any_Builtin_max (_argTypes : Array TypeId) (_type : TypeId) (args : Array Value) : Any P (Builtin.max_ _argTypes _type args) := by
 unfold Builtin.max_
 repeat' first | (with_reducible refine any_bind ?_ (fun _ => ?_)) | (with_reducible refine any_map ?_) | (simp; done) | (split) | (with_reducible intro _) | (dsimp only) | (refine any_forIn_range (fun _ _ => ?_) _ _) | (refine any_forIn_list (fun _ _ => ?_) _ _) | (refine any_forIn_array (fun _ _ => ?_) _ _) | (refine any_foldlM (fun _ _ => ?_) _ _) | (refine any_mapM_array (fun _ => ?_) _) | (refine any_forIn'_range _ _ (fun _ _ _ => ?_) _)
@[simp] theorem any_Builtin_min2  (v1 : Value) (v2 : Value) : Any P (Builtin.min2 v1 v2) := by
 unfold Builtin.min2
 repeat' first | (with_reducible refine any_bind ?_ (fun _ => ?_)) | (with_reducible refine any_map ?_) | (simp; done) | (split) | (with_reducible intro _) | (dsimp only) | (refine any_forIn_range (fun _ _ => ?_) _ _) | (refine any_forIn_list (fun _ _ => ?_) _ _) | (refine any_forIn_array (fun _ _ => ?_) _ _) | (refine any_foldlM (fun _ _ => ?_) _ _) | (refine any_mapM_array (fun _ => ?_) _) | (refine any_forIn'_range _ _ (fun _ _ _ => ?_) _)
@[simp] theorem any_Builtin_min (_argTypes : Array TypeId) (_type : TypeId) (args : Array Value) : Any P (Builtin.min_ _argTypes _type args) := by
 unfold Builtin.min_
 repeat' first | (with_reducible refine any_bind ?_ (fun _ => ?_)) | (with_reducible refine any_map ?_) | (simp; done) | (split) | (with_reducible intro _) | (dsimp only) | (refine any_forIn_range (fun _ _ => ?_) _ _) | (refine any_forIn_list (fun _ _ => ?_) _ _) | (refine any_forIn_array (fun _ _ => ?_) _ _) | (refine any_foldlM (fun _ _ => ?_) _ _) | (refine any_mapM_array (fun _ => ?_) _) | (refine any_forIn'_range _ _ (fun _ _ _ => ?_) _)
@[simp] theorem any_Builtin_real (t : Array TypeId) (ty : TypeId) (args : Array Value) : Any P (Builtin.real_ t ty args) := by
 unfold Builtin.real_
 rcases args with ⟨_ | ⟨a, _ | ⟨b, l⟩⟩⟩
 all_goals try exact any_stuck _
 all_goals (cases a <;> try exact any_stuck _)
 all_goals (repeat' first | (with_reducible refine any_bind ?_ (fun _ => ?_)) | (with_reducible refine any_map ?_) | (simp; done) | (with_reducible intro _) | exact any_stuck _ | exact any_unsupported _ | exact any_runtimePanic _ | exact any_pure _ | (refine any_bind ?_ (fun _ => ?_)) | (refine any_ite (fun _ => ?_) (fun _ => ?_)) | (split) | (dsimp only))
@[simp] theorem any_Builtin_unsafeAdd (t : Array TypeId) (ty : TypeId) (args : Array Value) : Any P (Builtin.unsafeAdd_ t ty args) := by
 unfold Builtin.unsafeAdd_
 rcases args with ⟨_ | ⟨a, _ | ⟨b, _ | ⟨c, l⟩⟩⟩⟩
 all_goals try exact any_stuck _
 all_goals (cases a <;> try exact any_stuck _)
 all_goals (rename_i v; cases v)
 all_goals (repeat' first | (with_reducible refine any_bind ?_ (fun _ => ?_)) | (with_reducible refine any_map ?_) | (simp; done) | (with_reducible intro _) | exact any_stuck _ | exact any_unsupported _ | exact any_runtimePanic _ | exact any_pure _ | (refine any_bind ?_ (fun _ => ?_)) | (refine any_ite (fun _ => ?_) (fun _ => ?_)) | (split) | (dsimp only))
@[simp] theorem any_Builtin_unsafeSlice (t : Array TypeId) (ty : TypeId) (args : Array Value) : Any P (Builtin.unsafeSlice_ t ty args) := by
 unfold Builtin.unsafeSlice_
 rcases args with ⟨_ | ⟨a, _ | ⟨b, _ | ⟨c, l⟩⟩⟩⟩
 all_goals try exact any_stuck _
 all_goals (cases a <;> try exact any_stuck _)
 all_goals (rename_i v; cases v)
 all_goals (repeat' first | (with_reducible refine any_bind ?_ (fun _ => ?_)) | (with_reducible refine any_map ?_) | (simp; done) | (with_reducible intro _) | exact any_stuck _ | exact any_unsupported _ | exact any_runtimePanic _ | exact any_pure _ | (refine any_bind ?_ (fun _ => ?_)) | (refine any_ite (fun _ => ?_) (fun _ => ?_)) | (split) | (dsimp only))
@[simp] theorem any_Builtin_unsafeSliceData (t : Array TypeId) (ty : TypeId) (args : Array Value) : Any P (Builtin.unsafeSliceData_ t ty args) := by
 unfold Builtin.unsafeSliceData_
 rcases args with ⟨_ | ⟨a, _ | ⟨b, l⟩⟩⟩
 all_goals try exact any_stuck _
 all_goals (cases a <;> try exact any_stuck _)
 all_goals (rename_i v n c; cases v)
 all_goals (repeat' first | (with_reducible refine any_bind ?_ (fun _ => ?_)) | (with_reducible refine any_map ?_) | (simp; done) | (with_reducible intro _) | exact any_stuck _ | exact any_unsupported _ | exact any_runtimePanic _ | exact any_pure _ | (refine any_bind ?_ (fun _ => ?_)) | (refine any_ite (fun _ => ?_) (fun _ => ?_)) | (split) | (dsimp only))
@[simp] theorem any_Builtin_unsafeString (t : Array TypeId) (ty : TypeId) (args : Array Value) : Any P (Builtin.unsafeString_ t ty args) := by
 unfold Builtin.unsafeString_
 rcases args with ⟨_ | ⟨a, _ | ⟨b, _ | ⟨c, l⟩⟩⟩⟩
 all_goals try exact any_stuck _
 all_goals (cases a <;> try exact any_stuck _)
 all_goals (rename_i v; cases v)
 all_goals (repeat' first | (with_reducible refine any_bind ?_ (fun _ => ?_)) | (with_reducible refine any_map ?_) | (simp; done) | (with_reducible intro _) | exact any_stuck _ | exact any_unsupported _ | exact any_runtimePanic _ | exact any_pure _ | (refine any_bind ?_ (fun _ => ?_)) | (refine any_ite (fun _ => ?_) (fun _ => ?_)) | (split) | (dsimp only))
@[simp] theorem any_Builtin_unsafeStringData (t : Array TypeId) (ty : TypeId) (args : Array Value) : Any P (Builtin.unsafeStringData_ t ty args) := by
 unfold Builtin.unsafeStringData_
 rcases args with ⟨_ | ⟨a, _ | ⟨b, l⟩⟩⟩
 all_goals try exact any_stuck _
 all_goals (cases a <;> try exact any_stuck _)
 all_goals (repeat' first | (with_reducible refine any_bind ?_ (fun _ => ?_)) | (with_reducible refine any_map ?_) | (simp; done) | (with_reducible intro _) | exact any_stuck _ | exact any_unsupported _ | exact any_runtimePanic _ | exact any_pure _ | (refine any_bind ?_ (fun _ => ?_)) | (refine any_ite (fun _ => ?_) (fun _ => ?_)) | (split) | (dsimp only))
@[simp] theorem any_Conv_seenAt (a : Addr) : Any P (Conv.seenAt a) := by
 unfold Conv.seenAt
 repeat' first | (with_reducible refine any_bind ?_ (fun _ => ?_)) | (with_reducible refine any_map ?_) | (simp; done) | (split) | (with_reducible intro _) | (dsimp only) | (refine any_forIn_range (fun _ _ => ?_) _ _) | (refine any_forIn_list (fun _ _ => ?_) _ _) | (refine any_forIn_array (fun _ _ => ?_) _ _) | (refine any_foldlM (fun _ _ => ?_) _ _) | (refine any_mapM_array (fun _ => ?_) _) | (refine any_forIn'_range _ _ (fun _ _ _ => ?_) _)
@[simp] theorem any_Conv_unsafePointer (src dst : TypeId) (x : Value) : Any P (Conv.unsafePointer src dst x) := by
 unfold Conv.unsafePointer
 repeat' first | (with_reducible refine any_bind ?_ (fun _ => ?_)) | (with_reducible refine any_map ?_) | (simp; done) | (split) | (with_reducible intro _) | (dsimp only) | (refine any_forIn_range (fun _ _ => ?_) _ _) | (refine any_forIn_list (fun _ _ => ?_) _ _) | (refine any_forIn_array (fun _ _ => ?_) _ _) | (refine any_foldlM (fun _ _ => ?_) _ _) | (refine any_mapM_array (fun _ => ?_) _) | (refine any_forIn'_range _ _ (fun _ _ _ => ?_) _)
@[simp] theorem any_Builtin_printOne (t : TypeId) (v : Value) : Any P (Builtin.printOne t v) := by
 unfold Builtin.printOne
 repeat' first | (with_reducible refine any_bind ?_ (fun _ => ?_)) | (with_reducible refine any_map ?_) | (simp; done) | (split) | (with_reducible intro _) | (dsimp only) | (refine any_forIn_range (fun _ _ => ?_) _ _) | (refine any_forIn_list (fun _ _ => ?_) _ _) | (refine any_forIn_array (fun _ _ => ?_) _ _) | (refine any_foldlM (fun _ _ => ?_) _ _) | (refine any_mapM_array (fun _ => ?_) _) | (refine any_forIn'_range _ _ (fun _ _ _ => ?_) _)
@[simp] theorem any_Builtin_pieces (ln : Bool) (consts : Array Bool) (argTypes : Array TypeId) (args : Array Value) : Any P (Builtin.pieces ln consts argTypes args) := by
 unfold Builtin.pieces
 repeat' first | (with_reducible refine any_bind ?_ (fun _ => ?_)) | (with_reducible refine any_map ?_) | (simp; done) | (split) | (with_reducible intro _) | (dsimp only) | (refine any_forIn_range (fun _ _ => ?_) _ _) | (refine any_forIn_list (fun _ _ => ?_) _ _) | (refine any_forIn_array (fun _ _ => ?_) _ _) | (refine any_foldlM (fun _ _ => ?_) _ _) | (refine any_mapM_array (fun _ => ?_) _) | (refine any_forIn'_range _ _ (fun _ _ _ => ?_) _)
end Go.Bsd
