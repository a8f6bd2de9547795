/- A part. -/
import Derived.Test.YtonmcakdofbjiaaGreatDoorM3
import Derived.Test.YtonmcakdofbjiaaGreatDoorProg
import Derived.Test.YtonmcakdofbjiaaGreatDoorRows
import Derived.WalkKit
import Derived.WalkSpells
import Derived.WalkLawsBesides
import Derived.Recover
import Derived.RegionTactic
import Derived.Outline
import Derived.Laws.NewBlocks
import Derived.Shelf.LaysC
import Derived.Shelf.Strconv.ParseIntPublic10
set_option linter.all false
set_option maxRecDepth 100000
set_option maxHeartbeats 8000000
namespace Go.Proofs
open Go.Bsd
theorem zm{P:Program}{l:List (String×(Array Value->Sem Value))}(h:jQ P l){n:Nat}{e:Array Value->Sem Value}(he:(l[n]?).map (fun x=>x.2)=some e):∀a,Any P (e a):=by
 cases hx:l[n]? with
 |none=>rw[hx] at he;cases he
 |some x=>
  rw[hx] at he;simp only[Option.map_some,Option.some.injEq] at he;subst he;exact h x (List.mem_of_getElem? hx)
def uF(k:List Nat)(x:Func×Nat):Bool:=!(x.1.name== "runtime.NumGoroutine")&&(x.1.body.isSome || ((Extern.findNext x.1).isNone&&(k.contains x.2 || (Extern.find x.1).isNone)))
theorem zcg{P:Program}(k:List Nat)(h:(P.funcs.toList.zipIdx).all (uF k)=true)(hk:∀(f:FuncId) (fn:Func),f∈k->P.funcs[f]? =some fn->∀e,Extern.find fn=some e->∀a,Any P (e a)):TameProg P:=by
 have get:∀(f:FuncId) (fn:Func),P.funcs[f]? =some fn->uF k (fn,f)=true:=fun f fn hf=>by
  rw[List.all_eq_true] at h;refine h _ ?_;rw[List.mem_zipIdx_iff_getElem?];simpa using hf
 refine⟨fun f fn hf=>?_,fun f fn hf hb=>?_,fun f fn hf hb e he=>?_⟩
 ·have:=get f fn hf
  unfold uF at this;simp only[Bool.and_eq_true,Bool.not_eq_true'] at this;exact this.1
 ·have:=get f fn hf
  unfold uF at this;simp only[Bool.and_eq_true,Bool.or_eq_true] at this;rcases this.2 with h'|h'
  ·cases hx:fn.body<;>simp[hx] at h' hb
  ·simpa using h'.1
 ·have:=get f fn hf
  unfold uF at this;simp only[Bool.and_eq_true,Bool.or_eq_true] at this;rcases this.2 with h'|h'
  ·cases hx:fn.body<;>simp[hx] at h' hb
  ·rcases h'.2 with h2|h2
   ·exact hk f fn (by simpa using h2) hf e he
   ·rw[he] at h2;cases h2
theorem Tryz.row58:Extern.find Tryz.f58=(Extern.ReflectliteType.rows[0]?).map (fun x=>x.2):=by kernel_rfl
theorem Tryz.row107:Extern.find Tryz.f107=(Extern.ReflectliteValue.rows[0]?).map (fun x=>x.2):=by kernel_rfl
theorem Tryz.row108:Extern.find Tryz.f108=(Extern.ReflectliteValue.rows[3]?).map (fun x=>x.2):=by kernel_rfl
theorem Tryz.row109:Extern.find Tryz.f109=(Extern.ReflectliteValue.rows[5]?).map (fun x=>x.2):=by kernel_rfl
theorem Tryz.row138:Extern.find Tryz.f138=(Extern.ReflectliteValue.rows[7]?).map (fun x=>x.2):=by kernel_rfl
theorem Tryz.row139:Extern.find Tryz.f139=(Extern.ReflectliteValue.rows[8]?).map (fun x=>x.2):=by kernel_rfl
theorem Tryz.row195:Extern.find Tryz.f195=(Extern.RuntimeError.rows[4]?).map (fun x=>x.2):=by kernel_rfl
theorem Tryz.row196:Extern.find Tryz.f196=(Extern.RuntimeError.rows[11]?).map (fun x=>x.2):=by kernel_rfl
theorem Tryz.row197:Extern.find Tryz.f197=(Extern.RuntimeError.rows[0]?).map (fun x=>x.2):=by kernel_rfl
theorem Tryz.row198:Extern.find Tryz.f198=(Extern.RuntimeError.rows[8]?).map (fun x=>x.2):=by kernel_rfl
theorem Tryz.row199:Extern.find Tryz.f199=(Extern.RuntimeError.rows[1]?).map (fun x=>x.2):=by kernel_rfl
theorem Tryz.row200:Extern.find Tryz.f200=(Extern.RuntimeError.rows[9]?).map (fun x=>x.2):=by kernel_rfl
theorem Tryz.row201:Extern.find Tryz.f201=(Extern.RuntimeError.rows[2]?).map (fun x=>x.2):=by kernel_rfl
theorem Tryz.row202:Extern.find Tryz.f202=(Extern.RuntimeError.rows[10]?).map (fun x=>x.2):=by kernel_rfl
theorem Tryz.row203:Extern.find Tryz.f203=(Extern.RuntimeError.rows[5]?).map (fun x=>x.2):=by kernel_rfl
theorem Tryz.row204:Extern.find Tryz.f204=(Extern.RuntimeError.rows[12]?).map (fun x=>x.2):=by kernel_rfl
theorem Tryz.row205:Extern.find Tryz.f205=(Extern.RuntimeError.rows[6]?).map (fun x=>x.2):=by kernel_rfl
theorem Tryz.row206:Extern.find Tryz.f206=(Extern.RuntimeError.rows[13]?).map (fun x=>x.2):=by kernel_rfl
theorem Tryz.row209:Extern.find Tryz.f209=(Extern.ReflectliteType.rows[9]?).map (fun x=>x.2):=by kernel_rfl
theorem Tryz.row210:Extern.find Tryz.f210=(Extern.RuntimeError.rows[7]?).map (fun x=>x.2):=by kernel_rfl
theorem Tryz.row211:Extern.find Tryz.f211=(Extern.RuntimeError.rows[14]?).map (fun x=>x.2):=by kernel_rfl
theorem Tryz.row215:Extern.find Tryz.f215=(Extern.ReflectliteType.rows[10]?).map (fun x=>x.2):=by kernel_rfl
theorem Tryz.row216:Extern.find Tryz.f216=(Extern.ReflectliteType.rows[7]?).map (fun x=>x.2):=by kernel_rfl
theorem Tryz.row217:Extern.find Tryz.f217=(Extern.ReflectliteType.rows[2]?).map (fun x=>x.2):=by kernel_rfl
theorem Tryz.row218:Extern.find Tryz.f218=(Extern.ReflectliteType.rows[1]?).map (fun x=>x.2):=by kernel_rfl
theorem Tryz.row219:Extern.find Tryz.f219=(Extern.ReflectliteType.rows[6]?).map (fun x=>x.2):=by kernel_rfl
theorem Tryz.row220:Extern.find Tryz.f220=(Extern.ReflectliteType.rows[4]?).map (fun x=>x.2):=by kernel_rfl
theorem Tryz.row221:Extern.find Tryz.f221=(Extern.ReflectliteType.rows[5]?).map (fun x=>x.2):=by kernel_rfl
theorem Tryz.row222:Extern.find Tryz.f222=(Extern.ReflectliteType.rows[3]?).map (fun x=>x.2):=by kernel_rfl
theorem Tryz.row223:Extern.find Tryz.f223=(Extern.ReflectliteType.rows[8]?).map (fun x=>x.2):=by kernel_rfl
theorem Tryz.row225:Extern.find Tryz.f225=(Extern.ReflectliteValue.rows[9]?).map (fun x=>x.2):=by kernel_rfl
theorem Tryz.row227:Extern.find Tryz.f227=(Extern.ReflectliteValue.rows[2]?).map (fun x=>x.2):=by kernel_rfl
theorem Tryz.row228:Extern.find Tryz.f228=(Extern.ReflectliteType.rows[11]?).map (fun x=>x.2):=by kernel_rfl
theorem Tryz.tame:TameProg Tryz.prog:=by
 refine zcg [58,107,108,109,138,139,195,196,197,198,199,200,201,202,203,204,205,206,209,210,211,215,216,217,218,219,220,221,222,223,225,227,228] (by kernel_rfl) fun f fn hm hf e he=>?_
 simp only[List.mem_cons,List.not_mem_nil,or_false] at hm;rcases hm with rfl|rfl|rfl|rfl|rfl|rfl|rfl|rfl|rfl|rfl|rfl|rfl|rfl|rfl|rfl|rfl|rfl|rfl|rfl|rfl|rfl|rfl|rfl|rfl|rfl|rfl|rfl|rfl|rfl|rfl|rfl|rfl|rfl
 ·obtain rfl:=Option.some.inj (Tryz.func58.symm.trans hf);exact zm allAny_types (Tryz.row58.symm.trans he)
 ·obtain rfl:=Option.some.inj (Tryz.func107.symm.trans hf);exact zm yF (Tryz.row107.symm.trans he)
 ·obtain rfl:=Option.some.inj (Tryz.func108.symm.trans hf);exact zm yF (Tryz.row108.symm.trans he)
 ·obtain rfl:=Option.some.inj (Tryz.func109.symm.trans hf);exact zm yF (Tryz.row109.symm.trans he)
 ·obtain rfl:=Option.some.inj (Tryz.func138.symm.trans hf);exact zm yF (Tryz.row138.symm.trans he)
 ·obtain rfl:=Option.some.inj (Tryz.func139.symm.trans hf);exact zm yF (Tryz.row139.symm.trans he)
 ·obtain rfl:=Option.some.inj (Tryz.func195.symm.trans hf);exact zm zL (Tryz.row195.symm.trans he)
 ·obtain rfl:=Option.some.inj (Tryz.func196.symm.trans hf);exact zm zL (Tryz.row196.symm.trans he)
 ·obtain rfl:=Option.some.inj (Tryz.func197.symm.trans hf);exact zm zL (Tryz.row197.symm.trans he)
 ·obtain rfl:=Option.some.inj (Tryz.func198.symm.trans hf);exact zm zL (Tryz.row198.symm.trans he)
 ·obtain rfl:=Option.some.inj (Tryz.func199.symm.trans hf);exact zm zL (Tryz.row199.symm.trans he)
 ·obtain rfl:=Option.some.inj (Tryz.func200.symm.trans hf);exact zm zL (Tryz.row200.symm.trans he)
 ·obtain rfl:=Option.some.inj (Tryz.func201.symm.trans hf);exact zm zL (Tryz.row201.symm.trans he)
 ·obtain rfl:=Option.some.inj (Tryz.func202.symm.trans hf);exact zm zL (Tryz.row202.symm.trans he)
 ·obtain rfl:=Option.some.inj (Tryz.func203.symm.trans hf);exact zm zL (Tryz.row203.symm.trans he)
 ·obtain rfl:=Option.some.inj (Tryz.func204.symm.trans hf);exact zm zL (Tryz.row204.symm.trans he)
 ·obtain rfl:=Option.some.inj (Tryz.func205.symm.trans hf);exact zm zL (Tryz.row205.symm.trans he)
 ·obtain rfl:=Option.some.inj (Tryz.func206.symm.trans hf);exact zm zL (Tryz.row206.symm.trans he)
 ·obtain rfl:=Option.some.inj (Tryz.func209.symm.trans hf);exact zm allAny_types (Tryz.row209.symm.trans he)
 ·obtain rfl:=Option.some.inj (Tryz.func210.symm.trans hf);exact zm zL (Tryz.row210.symm.trans he)
 ·obtain rfl:=Option.some.inj (Tryz.func211.symm.trans hf);exact zm zL (Tryz.row211.symm.trans he)
 ·obtain rfl:=Option.some.inj (Tryz.func215.symm.trans hf);exact zm allAny_types (Tryz.row215.symm.trans he)
 ·obtain rfl:=Option.some.inj (Tryz.func216.symm.trans hf);exact zm allAny_types (Tryz.row216.symm.trans he)
 ·obtain rfl:=Option.some.inj (Tryz.func217.symm.trans hf);exact zm allAny_types (Tryz.row217.symm.trans he)
 ·obtain rfl:=Option.some.inj (Tryz.func218.symm.trans hf);exact zm allAny_types (Tryz.row218.symm.trans he)
 ·obtain rfl:=Option.some.inj (Tryz.func219.symm.trans hf);exact zm allAny_types (Tryz.row219.symm.trans he)
 ·obtain rfl:=Option.some.inj (Tryz.func220.symm.trans hf);exact zm allAny_types (Tryz.row220.symm.trans he)
 ·obtain rfl:=Option.some.inj (Tryz.func221.symm.trans hf);exact zm allAny_types (Tryz.row221.symm.trans he)
 ·obtain rfl:=Option.some.inj (Tryz.func222.symm.trans hf);exact zm allAny_types (Tryz.row222.symm.trans he)
 ·obtain rfl:=Option.some.inj (Tryz.func223.symm.trans hf);exact zm allAny_types (Tryz.row223.symm.trans he)
 ·obtain rfl:=Option.some.inj (Tryz.func225.symm.trans hf);exact zm yF (Tryz.row225.symm.trans he)
 ·obtain rfl:=Option.some.inj (Tryz.func227.symm.trans hf);exact zm yF (Tryz.row227.symm.trans he)
 ·obtain rfl:=Option.some.inj (Tryz.func228.symm.trans hf);exact zm allAny_types (Tryz.row228.symm.trans he)
end Go.Proofs
namespace Go.Proofs.YtonmcakdofbjiaaGreatDoor
open Go.RowKit
theorem digit_any(x:Int)(w:World):Calls Tryz.prog 149 #[.int .u8 x] w fun e w'=>e= .returned (.bool (decide (48<=x)&&decide (x<=57)))/\w'=w:=by
 go_enter Tryz.func149,Tryz.ntmps149;go_wp2;all_goals
  go_ret;exact⟨by simp[*];try omega,rfl⟩
def isLetter(x:Int):Bool:=(decide (97<=x)&&decide (x<=122)) || (decide (65<=x)&&decide (x<=90)) || decide (x=95)
theorem letter_any(x:Int)(w:World):Calls Tryz.prog 146 #[.int .u8 x] w fun e w'=>e= .returned (.bool (isLetter x))/\w'=w:=by
 go_enter Tryz.func146,Tryz.ntmps146;go_wp2;all_goals
  go_ret;refine⟨?_,rfl⟩;show Ending.returned (.bool _)=Ending.returned (.bool _);refine congrArg _ (congrArg _ ?_);rw[Bool.eq_iff_iff];simp[isLetter];try omega
theorem zeN(x:Int)(w:World):Calls Tryz.prog 148 #[.int .u8 x] w fun e w'=>e= .returned (.bool (isLetter x || (decide (48<=x)&&decide (x<=57))))/\w'=w:=by
 go_enter Tryz.func148,Tryz.ntmps148;go_wp2_with (first|(go_at_call 146;refine(letter_any _ _).mono ?_;rintro e w' ⟨rfl,rfl⟩)|(go_at_call 149;refine(digit_any _ _).mono ?_;rintro e w' ⟨rfl,rfl⟩));all_goals
  go_ret;refine⟨?_,rfl⟩;show Ending.returned (.bool _)=Ending.returned (.bool _);refine congrArg _ (congrArg _ ?_);simp_all
def isDigit(x:Int):Bool:=decide (48<=x)&&decide (x<=57)
theorem xH(x:Int)(w:World):Calls Tryz.prog 149 #[.int .u8 x] w fun e w'=>e= .returned (.bool (isDigit x))/\w'=w:=digit_any x w
def yn(x:Int):Bool:=isLetter x || isDigit x
theorem zbr(x:Int)(w:World):Calls Tryz.prog 148 #[.int .u8 x] w fun e w'=>e= .returned (.bool (yn x))/\w'=w:=zeN x w
def isLine(x:Int):Bool:=x !=10
theorem zcQ(x:Int)(w:World):Calls Tryz.prog 155 #[.int .u8 x] w fun e w'=>e= .returned (.bool (isLine x))/\w'=w:=by
 go_enter Tryz.func155,Tryz.ntmps155;go_wp2;all_goals
  go_ret;exact⟨rfl,rfl⟩
def Upto(pred:Int->Bool)(s:ByteArray)(i k:Nat):Prop:=i<=k/\k<=s.size/\(∀(j:Nat) (h:j<s.size),i<=j->j<k->pred s[j].toNat=true)/\∀h:k<s.size,pred s[k].toNat=false
theorem zbK(s:ByteArray)(i:Nat)(w:World)(hi:i<=s.size)(hs:s.size<=8796093022207):
 Calls Tryz.prog 147 #[.string s, .int .i64 i, .func (.func 149) #[] #[]] w fun e w'=>(∃k:Nat,Upto isDigit s i k/\e= .returned (.int .i64 k))/\w'=w:=by
 go_enter Tryz.func147,Tryz.ntmps147;go_wp2;go_loop [1] (fun c=>∃k:Nat,i<=k/\k<=s.size/\c= .int .i64 k/\∀(j:Nat) (h:j<s.size),i<=j->j<k->isDigit s[j].toNat=true)
  (fun c=>s.size-(intOf c).toNat)
 case atStart=>exact⟨i,Nat.le_refl _,hi,rfl,fun j _ h1 h2=>by omega⟩
 case round=>
  obtain⟨k,h1,h2,rfl,h3⟩:=hrel
  go_wp2_with (go_at_call 149;refine(xH _ _).mono ?_;rintro e w' ⟨rfl,rfl⟩)
  ·have hk:isDigit (s[k]).toNat=true:=by assumption
   go_round
   case rel=>
    refine⟨k+1,by omega,by omega,by go_num,fun j hj a b=>?_⟩
    by_cases e:j=k
    ·subst e;exact hk
    ·exact h3 j hj a (by omega)
   case measure=>simp[intOf];omega
  ·have hlt:k<s.size:=by assumption
   have hk:isDigit (s[k]).toNat=false:=by assumption
   go_ret;exact⟨⟨k,⟨h1,h2,h3,fun _=>hk⟩,rfl⟩,rfl⟩
  ·go_ret;exact⟨⟨k,⟨h1,h2,h3,fun h=>absurd h (by assumption)⟩,rfl⟩,rfl⟩
theorem after_alnum(s:ByteArray)(i:Nat)(w:World)(hi:i<=s.size)(hs:s.size<=8796093022207):
 Calls Tryz.prog 147 #[.string s, .int .i64 i, .func (.func 148) #[] #[]] w fun e w'=>(∃k:Nat,Upto yn s i k/\e= .returned (.int .i64 k))/\w'=w:=by
 go_enter Tryz.func147,Tryz.ntmps147;go_wp2;go_loop [1] (fun c=>∃k:Nat,i<=k/\k<=s.size/\c= .int .i64 k/\∀(j:Nat) (h:j<s.size),i<=j->j<k->yn s[j].toNat=true)
  (fun c=>s.size-(intOf c).toNat)
 case atStart=>exact⟨i,Nat.le_refl _,hi,rfl,fun j _ h1 h2=>by omega⟩
 case round=>
  obtain⟨k,h1,h2,rfl,h3⟩:=hrel
  go_wp2_with (go_at_call 148;refine(zbr _ _).mono ?_;rintro e w' ⟨rfl,rfl⟩)
  ·have hk:yn (s[k]).toNat=true:=by assumption
   go_round
   case rel=>
    refine⟨k+1,by omega,by omega,by go_num,fun j hj a b=>?_⟩
    by_cases e:j=k
    ·subst e;exact hk
    ·exact h3 j hj a (by omega)
   case measure=>simp[intOf];omega
  ·have hlt:k<s.size:=by assumption
   have hk:yn (s[k]).toNat=false:=by assumption
   go_ret;exact⟨⟨k,⟨h1,h2,h3,fun _=>hk⟩,rfl⟩,rfl⟩
  ·go_ret;exact⟨⟨k,⟨h1,h2,h3,fun h=>absurd h (by assumption)⟩,rfl⟩,rfl⟩
theorem zdk(s:ByteArray)(i:Nat)(w:World)(hi:i<=s.size)(hs:s.size<=8796093022207):
 Calls Tryz.prog 147 #[.string s, .int .i64 i, .func (.func 155) #[] #[]] w fun e w'=>(∃k:Nat,Upto isLine s i k/\e= .returned (.int .i64 k))/\w'=w:=by
 go_enter Tryz.func147,Tryz.ntmps147;go_wp2;go_loop [1] (fun c=>∃k:Nat,i<=k/\k<=s.size/\c= .int .i64 k/\∀(j:Nat) (h:j<s.size),i<=j->j<k->isLine s[j].toNat=true)
  (fun c=>s.size-(intOf c).toNat)
 case atStart=>exact⟨i,Nat.le_refl _,hi,rfl,fun j _ h1 h2=>by omega⟩
 case round=>
  obtain⟨k,h1,h2,rfl,h3⟩:=hrel
  go_wp2_with (go_at_call 155;refine(zcQ _ _).mono ?_;rintro e w' ⟨rfl,rfl⟩)
  ·have hk:isLine (s[k]).toNat=true:=by assumption
   go_round
   case rel=>
    refine⟨k+1,by omega,by omega,by go_num,fun j hj a b=>?_⟩
    by_cases e:j=k
    ·subst e;exact hk
    ·exact h3 j hj a (by omega)
   case measure=>simp[intOf];omega
  ·have hlt:k<s.size:=by assumption
   have hk:isLine (s[k]).toNat=false:=by assumption
   go_ret;exact⟨⟨k,⟨h1,h2,h3,fun _=>hk⟩,rfl⟩,rfl⟩
  ·go_ret;exact⟨⟨k,⟨h1,h2,h3,fun h=>absurd h (by assumption)⟩,rfl⟩,rfl⟩
def isBlank(x:Int):Bool:=x==9 || x==10 || x==13 || x==32
inductive Skips (s:ByteArray):Nat->Nat->Prop
 |here (k:Nat):Skips s k k
 |blank {i k:Nat} (h:i<s.size) (hb:isBlank s[i].toNat=true) (hk:Skips s (i+1) k):Skips s i k
 |remark {i j k:Nat} (h:i<s.size) (hb:(s[i]).toNat=35) (hj:Upto isLine s i j) (hk:Skips s j k):Skips s i k
theorem zcB(s:ByteArray)(i:Nat)(w:World)(hi:i<=s.size)(hs:s.size<=8796093022207):
 Calls Tryz.prog 119 #[.string s, .int .i64 i] w fun e w'=>(∃k:Nat,Skips s i k/\k<=s.size/\(∀h:k<s.size,isBlank s[k].toNat=false/\(s[k]).toNat≠35)/\e= .returned (.int .i64 k))/\w'=w:=by
 go_enter Tryz.func119,Tryz.ntmps119;go_wp2;go_loop [1] (fun c=>∃k:Nat,i<=k/\k<=s.size/\c= .int .i64 k/\∀m,Skips s k m->Skips s i m)
  (fun c=>s.size-(intOf c).toNat)
 case atStart=>exact⟨i,Nat.le_refl _,hi,rfl,fun m h=>h⟩
 case round=>
  obtain⟨k,h1,h2,rfl,h3⟩:=hrel
  go_wp2_with (go_at_call 147;refine(zdk s _ _ (by omega) hs).mono ?_;rintro e w' ⟨⟨j,hj,rfl⟩,rfl⟩)
  ·have hlt:k<s.size:=by assumption
   have hb:isBlank (s[k]).toNat=true:=by simp[isBlank, *]
   exact⟨⟨k+1,by omega,by omega,by go_num,fun m hm=>h3 m (.blank hlt hb hm)⟩,by simp[intOf];omega⟩
  ·have hlt:k<s.size:=by assumption
   have hb:isBlank (s[k]).toNat=true:=by simp[isBlank, *]
   exact⟨⟨k+1,by omega,by omega,by go_num,fun m hm=>h3 m (.blank hlt hb hm)⟩,by simp[intOf];omega⟩
  ·have hlt:k<s.size:=by assumption
   have hb:isBlank (s[k]).toNat=true:=by simp[isBlank, *]
   exact⟨⟨k+1,by omega,by omega,by go_num,fun m hm=>h3 m (.blank hlt hb hm)⟩,by simp[intOf];omega⟩
  ·have hlt:k<s.size:=by assumption
   have hb:isBlank (s[k]).toNat=true:=by simp[isBlank, *]
   exact⟨⟨k+1,by omega,by omega,by go_num,fun m hm=>h3 m (.blank hlt hb hm)⟩,by simp[intOf];omega⟩
  ·have hlt:k<s.size:=by assumption
   have h35:(((s[k]).toNat:Int)==35)=true:=by assumption
   have e35:(s[k]).toNat=35:=by have:=eq_of_beq h35;omega
   have hkj:k<j:=by
    rcases Nat.lt_or_ge k j with h|h
    ·exact h
    ·exfalso;have e:k=j:=Nat.le_antisymm hj.1 h;subst e;have:=hj.2.2.2 hlt
     simp[isLine,e35] at this
   have hjs:=hj.2.1;exact⟨⟨j,by omega,hjs,rfl,fun m hm=>h3 m (.remark hlt e35 hj hm)⟩,by simp[intOf];omega⟩
  ·have hlt:k<s.size:=by assumption
   have h35:(((s[k]).toNat:Int)==35)=false:=by assumption
   go_ret;refine⟨⟨k,h3 k (.here k),h2,fun _=>⟨by simp[isBlank, *],fun e=>?_⟩,rfl⟩,rfl⟩
   rw[e] at h35;simp at h35
  ·go_ret;exact⟨⟨k,h3 k (.here k),h2,fun h=>absurd h (by assumption),rfl⟩,rfl⟩
def twos:List (List UInt8):=[[60,61],[62,61],[61,61],[33,61],[38,38],[124,124],[58,61]]
def ones:List Int:=[43,45,42,47,37,60,62,33,40,41,91,93,123,125,59]
def signAt(s:ByteArray)(i:Nat):ByteArray:=
 if i+1<s.size/\twos.any (fun t=>(s.extract i (i+2)).toList==t)=true then s.extract i (i+2)
 else if h:i<s.size then (if ones.any (fun t=>((s[i]).toNat:Int)==t)=true then s.extract i (i+1) else ⟨#[]⟩) else ⟨#[]⟩
theorem sign_any(s:ByteArray)(i:Nat)(w:World)(hi:i<s.size)(hs:s.size<=8796093022207):
 Calls Tryz.prog 153 #[.string s, .int .i64 i] w fun e w'=>e= .returned (.string (signAt s i))/\w'=w:=by
 go_enter Tryz.func153,Tryz.ntmps153;go_wp2;all_goals first
  |(exfalso
    simp_all
    done)
  |(go_ret
    refine⟨?_,rfl⟩;show Ending.returned (.string _)=Ending.returned (.string _);refine congrArg _ (congrArg _ ?_);have hlt1:i+1<s.size\/¬i+1<s.size:=by omega
    rcases hlt1 with h1|h1
    ·first
      |(exfalso
        omega)
      |(simp_all [signAt,twos,ones]
        done)
    ·first
      |(exfalso
        omega)
      |(simp_all [signAt,twos,ones]
        done)
      |(simp_all [signAt,twos,ones]
        intro hh;omega))
def itemV(kind:Int)(text:ByteArray)(num:Int)(at_:Int)(code:Int)(where_:Int):Value:= .agg #[.int .i64 kind, .string text, .int .i64 num, .int .i64 at_, .int .i64 code, .int .i64 where_]
theorem zd6(i:Nat)(w:World):Calls Tryz.prog 154 #[.int .i64 i] w fun e w'=>e= .returned (.tuple #[itemV 0 ⟨#[]⟩ 0 0 20 i, .bool true])/\Below w.heap.size w w':=by
 go_enter Tryz.func154,Tryz.ntmps154;go_wp2;refine bodyPost_ret (v:= .tuple #[itemV 0 ⟨#[]⟩ 0 0 20 i, .bool true]) (by simp[results,Tryz.f154,itemV,go_sem];try rfl) rfl ?_
 exact⟨rfl,(Below.refl _ w).alloc (Nat.le_refl _) _⟩
theorem zd8(s:ByteArray)(i:Nat)(b:Nat)(w:World)(hb:w.cell? ⟨b,0,none⟩=some (.string s))(hi:i<s.size)(hs:s.size<=8796093022207):
 Calls Tryz.prog 152 #[.int .i64 i, .pointer (some ⟨b,0,none⟩)] w fun e w'=>e= .returned (.tuple #[itemV 2 (signAt s i) 0 i 0 0, .bool !(signAt s i).toList.isEmpty])/\Below w.heap.size w w':=by
 go_enter Tryz.func152,Tryz.ntmps152;have hbl:b<w.heap.size:=by
  unfold World.cell? at hb
  rcases Nat.lt_or_ge b w.heap.size with h|h
  ·exact h
  ·rw[Array.getElem?_eq_none h] at hb;cases hb
 go_wp2_with (go_at_call 153;refine(sign_any s i _ hi hs).mono ?_;rintro e w' ⟨rfl,rfl⟩);refine bodyPost_ret (v:= .tuple #[itemV 2 (signAt s i) 0 i 0 0, .bool !(signAt s i).toList.isEmpty]) (by simp[results,Tryz.f152,itemV,go_sem];try rfl) rfl ?_
 exact⟨rfl,(Below.refl _ w).alloc (Nat.le_refl _) _⟩
theorem zeb(s:ByteArray)(i:Nat)(b:Nat)(w:World)(hb:w.cell? ⟨b,0,none⟩=some (.string s))(hi:i<s.size)(hs:s.size<=8796093022207):
 Calls Tryz.prog 145 #[.int .i64 i, .pointer (some ⟨b,0,none⟩)] w fun e w'=>
  ((isLetter (s[i]).toNat=false/\e= .returned (.tuple #[itemV 0 ⟨#[]⟩ 0 0 0 0, .bool false]))\/
    (isLetter (s[i]).toNat=true/\∃k,Upto yn s i k/\((16<k-i/\e= .returned (.tuple #[itemV 0 ⟨#[]⟩ 0 0 21 i, .bool true]))\/(k-i<=16/\e= .returned (.tuple #[itemV 0 (s.extract i k) 0 i 0 0, .bool true])))))/\Below w.heap.size w w':=by
 go_enter Tryz.func145,Tryz.ntmps145;have hbl:b<w.heap.size:=by
  unfold World.cell? at hb
  rcases Nat.lt_or_ge b w.heap.size with h|h
  ·exact h
  ·rw[Array.getElem?_eq_none h] at hb;cases hb
 go_wp2_with (first|(go_at_call 146;refine(letter_any _ _).mono ?_;rintro e w' ⟨rfl,rfl⟩)|(go_at_call 147;refine(after_alnum s i _ (by omega) hs).mono ?_;rintro e w' ⟨⟨k,hk,rfl⟩,rfl⟩;have hk1:=hk.1;have hk2:=hk.2.1))
 ·have hl:(!isLetter (s[i]).toNat)=true:=by assumption
  have hl':isLetter (s[i]).toNat=false:=by simpa using hl
  refine bodyPost_ret (v:= .tuple #[itemV 0 ⟨#[]⟩ 0 0 0 0, .bool false]) (by simp[results,Tryz.f145,itemV,go_sem];try rfl) rfl ?_
  exact⟨.inl ⟨hl',rfl⟩,by first|exact(Below.refl _ w).alloc (Nat.le_refl _) _|exact((Below.refl _ w).alloc (Nat.le_refl _) _).setCell (Nat.le_refl _) _⟩
 ·have hl:(!isLetter (s[i]).toNat)=false:=by assumption
  have hl':isLetter (s[i]).toNat=true:=by simpa using hl
  have hgt:16<(k:Int)-i:=by assumption
  refine bodyPost_ret (v:= .tuple #[itemV 0 ⟨#[]⟩ 0 0 21 i, .bool true]) (by simp[results,Tryz.f145,itemV,go_sem];try rfl) rfl ?_
  exact⟨.inr ⟨hl',k,hk, .inl ⟨by omega,rfl⟩⟩,by first|exact(Below.refl _ w).alloc (Nat.le_refl _) _⟩
 ·have hl:(!isLetter (s[i]).toNat)=false:=by assumption
  have hl':isLetter (s[i]).toNat=true:=by simpa using hl
  have hle:(k:Int)-i<=16:=by assumption
  refine bodyPost_ret (v:= .tuple #[itemV 0 (s.extract i k) 0 i 0 0, .bool true]) (by simp[results,Tryz.f145,itemV,go_sem];try rfl) rfl ?_
  exact⟨.inr ⟨hl',k,hk, .inr ⟨by omega,rfl⟩⟩,by first|exact(Below.refl _ w).alloc (Nat.le_refl _) _⟩
theorem za1(p q r:Addr)(w:World):
 CallsD Tryz.prog 166 #[.pointer (some p), .pointer (some q), .pointer (some r)] .returning w fun e u' w'=>e= .returned (.tuple #[])/\u'= .returning/\w'=w.alloc (.cells #[.int .i64 0, .int .i64 0] 224):=by
 have ta:∀w,(Instr.typeAssert .nilIface 20 224 true).run Tryz.prog w= .ok (.tuple #[.agg #[.int .i64 0, .int .i64 0], .bool false]) w:=fun w=>by kernel_rfl
 refine callsD_of_wpS Tryz.func166 rfl fun c₀ cs hu=>?_;apply wpS_seq;apply wpS_region;simp[wpOpsS,go_sem,recoverD,hu,Tryz.ntmps166,Exit.thenS,ta];refine wpS_of_wp ?_;simp only[Array.replicate_succ,Array.replicate_zero,List.push_toArray,List.append_toArray,List.nil_append,List.cons_append,List.setIfInBounds_toArray,List.set_cons_succ,List.set_cons_zero];go_wp2;cases c₀;simp_all [bodyPostS,results,Tryz.results166]
theorem wcatch_panicking(b:Nat)(x y:Int)(w:World)(c1:w.cell? ⟨b,0,none⟩=some (.int .i64 0))(c2:w.cell? ⟨b+1,0,none⟩=some (.int .i64 0))(c3:w.cell? ⟨b+1+1,0,none⟩=some (.int .i64 0))(fp:w.frozen? ⟨b,0,none⟩=false)(fq:w.frozen? ⟨b+1,0,none⟩=false)(fr:w.frozen? ⟨b+1+1,0,none⟩=false)(hl:b+1+1<w.heap.size):
 CallsD Tryz.prog 166 #[.pointer (some ⟨b,0,none⟩), .pointer (some ⟨b+1,0,none⟩), .pointer (some ⟨b+1+1,0,none⟩)] (.panicking [{v:= .iface 224 (.agg #[.int .i64 x, .int .i64 y]),recovered:=false}]) w fun e u' w'=>e= .returned (.tuple #[])/\u'= .panicking [{v:= .iface 224 (.agg #[.int .i64 x, .int .i64 y]),recovered:=true}]/\w'=((((w.setCell ⟨b,0,none⟩ (.int .i64 0)).setCell ⟨b+1,0,none⟩ (.int .i64 x)).setCell ⟨b+1+1,0,none⟩ (.int .i64 y)).alloc (.cells #[.int .i64 x, .int .i64 y] 224)).drew:=by
 have ta:∀w,(Instr.typeAssert (.iface 224 (.agg #[.int .i64 x, .int .i64 y])) 20 224 true).run Tryz.prog w= .ok (.tuple #[.agg #[.int .i64 x, .int .i64 y], .bool true]) w:=fun w=>by kernel_rfl
 have l1:b<w.heap.size:=by omega
 have l2:b+1<w.heap.size:=by omega
 refine callsD_of_wpS Tryz.func166 rfl fun c₀ cs hu=>?_;apply wpS_seq;apply wpS_region;simp[wpOpsS,go_sem,recoverD,hu,Tryz.ntmps166,Exit.thenS,ta];refine wpS_of_wp ?_;simp only[Array.replicate_succ,Array.replicate_zero,List.push_toArray,List.append_toArray,List.nil_append,List.cons_append,List.setIfInBounds_toArray,List.set_cons_succ,List.set_cons_zero];go_wp2;go_region
 show bodyPostS Tryz.prog Tryz.f166 c₀ cs _ _ _ _ _;cases c₀;simp_all [bodyPostS,results,Tryz.results166]
end Go.Proofs.YtonmcakdofbjiaaGreatDoor
namespace Go.Proofs
open Go.Shelf
def Tryz.laysC174_ren:Go.Shelf.Ren:=⟨fun|174=>167|247=>179|245=>180|287=>184|279=>185|280=>186|281=>187|282=>188|321=>189|322=>190|316=>191|171=>193|205=>192|243=>194|246=>136|283=>162|284=>163|285=>164|286=>165|129=>175|317=>174|318=>176|319=>177|320=>178|337=>182|338=>183|n=>n,fun|9=>9|3=>3|2=>2|75=>27|85=>226|4=>4|167=>239|5=>5|53=>217|175=>240|46=>234|168=>242|37=>220|0=>0|210=>250|21=>21|127=>252|145=>255|143=>253|171=>216|173=>221|212=>231|51=>232|20=>20|213=>233|232=>245|233=>246|80=>144|n=>n,fun|15=>8|16=>9|17=>5|18=>6|19=>7|n=>n⟩
theorem Tryz.laysC174:Go.Proofs.LaysC.n174 Tryz.prog Tryz.laysC174_ren:={
 mixed:=by kernel_rfl
 f129:=Tryz.func175.trans (congrArg some (by kernel_rfl))
 f171:=Tryz.func193.trans (congrArg some (by kernel_rfl))
 f174:=Tryz.func167.trans (congrArg some (by kernel_rfl))
 f205:=Tryz.func192.trans (congrArg some (by kernel_rfl))
 f243:=Tryz.func194.trans (congrArg some (by kernel_rfl))
 f245:=Tryz.func180.trans (congrArg some (by kernel_rfl))
 f246:=Tryz.func136.trans (congrArg some (by kernel_rfl))
 f247:=Tryz.func179.trans (congrArg some (by kernel_rfl))
 f279:=Tryz.func185.trans (congrArg some (by kernel_rfl))
 f280:=Tryz.func186.trans (congrArg some (by kernel_rfl))
 f281:=Tryz.func187.trans (congrArg some (by kernel_rfl))
 f282:=Tryz.func188.trans (congrArg some (by kernel_rfl))
 f283:=Tryz.func162.trans (congrArg some (by kernel_rfl))
 f284:=Tryz.func163.trans (congrArg some (by kernel_rfl))
 f285:=Tryz.func164.trans (congrArg some (by kernel_rfl))
 f286:=Tryz.func165.trans (congrArg some (by kernel_rfl))
 f287:=Tryz.func184.trans (congrArg some (by kernel_rfl))
 f316:=Tryz.func191.trans (congrArg some (by kernel_rfl))
 f317:=Tryz.func174.trans (congrArg some (by kernel_rfl))
 f318:=Tryz.func176.trans (congrArg some (by kernel_rfl))
 f319:=Tryz.func177.trans (congrArg some (by kernel_rfl))
 f320:=Tryz.func178.trans (congrArg some (by kernel_rfl))
 f321:=Tryz.func189.trans (congrArg some (by kernel_rfl))
 f322:=Tryz.func190.trans (congrArg some (by kernel_rfl))
 f337:=Tryz.func182.trans (congrArg some (by kernel_rfl))
 f338:=Tryz.func183.trans (congrArg some (by kernel_rfl))
 t0:=Tryz.underlying0
 a0:=Tryz.isAgg0
 z0:=Tryz.sizeOf0
 v0:=Tryz.zeroValue0
 t2:=Tryz.underlying2
 a2:=Tryz.isAgg2
 z2:=Tryz.sizeOf2
 v2:=Tryz.zeroValue2
 t3:=Tryz.underlying3
 a3:=Tryz.isAgg3
 z3:=Tryz.sizeOf3
 v3:=Tryz.zeroValue3
 t4:=Tryz.underlying4
 a4:=Tryz.isAgg4
 z4:=Tryz.sizeOf4
 v4:=Tryz.zeroValue4
 t5:=Tryz.underlying5
 a5:=Tryz.isAgg5
 z5:=Tryz.sizeOf5
 v5:=Tryz.zeroValue5
 t9:=Tryz.underlying9
 a9:=Tryz.isAgg9
 z9:=Tryz.sizeOf9
 v9:=Tryz.zeroValue9
 t20:=Tryz.underlying20
 a20:=Tryz.isAgg20
 z20:=Tryz.sizeOf20
 v20:=Tryz.zeroValue20
 t21:=Tryz.underlying21
 a21:=Tryz.isAgg21
 z21:=Tryz.sizeOf21
 v21:=Tryz.zeroValue21
 t37:=Tryz.underlying220
 a37:=Tryz.isAgg220
 z37:=Tryz.sizeOf220
 v37:=Tryz.zeroValue220
 t46:=Tryz.underlying234
 a46:=Tryz.isAgg234
 z46:=Tryz.sizeOf234
 v46:=Tryz.zeroValue234
 t51:=Tryz.underlying232
 a51:=Tryz.isAgg232
 z51:=Tryz.sizeOf232
 v51:=Tryz.zeroValue232
 t53:=Tryz.underlying217
 a53:=Tryz.isAgg217
 z53:=Tryz.sizeOf217
 v53:=Tryz.zeroValue217
 t75:=Tryz.underlying27
 a75:=Tryz.isAgg27
 z75:=Tryz.sizeOf27
 v75:=Tryz.zeroValue27
 t85:=Tryz.underlying226
 a85:=Tryz.isAgg226
 z85:=Tryz.sizeOf226
 v85:=Tryz.zeroValue226
 t127:=Tryz.underlying252
 a127:=Tryz.isAgg252
 z127:=Tryz.sizeOf252
 v127:=Tryz.zeroValue252
 t143:=Tryz.underlying253
 a143:=Tryz.isAgg253
 z143:=Tryz.sizeOf253
 v143:=Tryz.zeroValue253
 t145:=Tryz.underlying255
 a145:=Tryz.isAgg255
 z145:=Tryz.sizeOf255
 v145:=Tryz.zeroValue255
 t167:=Tryz.underlying239
 a167:=Tryz.isAgg239
 z167:=Tryz.sizeOf239
 v167:=Tryz.zeroValue239
 t168:=Tryz.underlying242
 a168:=Tryz.isAgg242
 z168:=Tryz.sizeOf242
 v168:=Tryz.zeroValue242
 t171:=Tryz.underlying216
 a171:=Tryz.isAgg216
 z171:=Tryz.sizeOf216
 v171:=Tryz.zeroValue216
 t173:=Tryz.underlying221
 a173:=Tryz.isAgg221
 z173:=Tryz.sizeOf221
 v173:=Tryz.zeroValue221
 t175:=Tryz.underlying240
 a175:=Tryz.isAgg240
 z175:=Tryz.sizeOf240
 v175:=Tryz.zeroValue240
 t210:=Tryz.underlying250
 a210:=Tryz.isAgg250
 z210:=Tryz.sizeOf250
 v210:=Tryz.zeroValue250
 t212:=Tryz.underlying231
 a212:=Tryz.isAgg231
 z212:=Tryz.sizeOf231
 v212:=Tryz.zeroValue231
 t213:=Tryz.underlying233
 a213:=Tryz.isAgg233
 z213:=Tryz.sizeOf233
 t232:=Tryz.underlying245
 a232:=Tryz.isAgg245
 z232:=Tryz.sizeOf245
 v232:=Tryz.zeroValue245
 t233:=Tryz.underlying246
 a233:=Tryz.isAgg246
 z233:=Tryz.sizeOf246
 v233:=Tryz.zeroValue246
 g15:=by kernel_rfl
 g16:=by kernel_rfl
 g17:=by kernel_rfl
 g18:=by kernel_rfl
 g19:=by kernel_rfl
 t80:=Tryz.underlying144
 a80:=Tryz.isAgg144
 z80:=Tryz.sizeOf144
 v80:=Tryz.zeroValue144
 i0:=by kernel_rfl
 i2:=by kernel_rfl
 i3:=by kernel_rfl
 i4:=by kernel_rfl
 i5:=by kernel_rfl
 i9:=by kernel_rfl
 i20:=by kernel_rfl
 i21:=by kernel_rfl
 i37:=by kernel_rfl
 i46:=by kernel_rfl
 i51:=by kernel_rfl
 i53:=by kernel_rfl
 i75:=by kernel_rfl
 i80:=by kernel_rfl
 i85:=by kernel_rfl
 i127:=by kernel_rfl
 i143:=by kernel_rfl
 i145:=by kernel_rfl
 i167:=by kernel_rfl
 i168:=by kernel_rfl
 i171:=by kernel_rfl
 i173:=by kernel_rfl
 i175:=by kernel_rfl
 i210:=by kernel_rfl
 i212:=by kernel_rfl
 i232:=by kernel_rfl
 i233:=by kernel_rfl
 m15:=by kernel_rfl
 m16:=by kernel_rfl
 m17:=by kernel_rfl
 m18:=by kernel_rfl
 m19:=by kernel_rfl
 c0:=by kernel_rfl
 c2:=by kernel_rfl
 c3:=by kernel_rfl
 c4:=by kernel_rfl
 c5:=by kernel_rfl
 c9:=by kernel_rfl
 c20:=by kernel_rfl
 c21:=by kernel_rfl
 c37:=by kernel_rfl
 c46:=by kernel_rfl
 c51:=by kernel_rfl
 c53:=by kernel_rfl
 c75:=by kernel_rfl
 c80:=by kernel_rfl
 c85:=by kernel_rfl
 c127:=by kernel_rfl
 c143:=by kernel_rfl
 c145:=by kernel_rfl
 c167:=by kernel_rfl
 c168:=by kernel_rfl
 c171:=by kernel_rfl
 c173:=by kernel_rfl
 c175:=by kernel_rfl
 c210:=by kernel_rfl
 c212:=by kernel_rfl
 c213:=by kernel_rfl
 c232:=by kernel_rfl
 c233:=by kernel_rfl}
open Go.RowKit in
theorem Tryz.strconv_ParseInt_10_at64_ok(s:ByteArray)(hmax:s.size<=9223372036854775806)(v:Int)(h:Lib.parseIntB 64 s.data.toList= .ok v)(w:World):
 Calls Tryz.prog 167 #[.string s, .int .i64 10, .int .i64 64] w fun e w'=>e= .returned (.tuple #[.int .i64 v, .nilIface])/\(w'=w\/∃t,w'=Lib.bytesWorld w 5 t):=Any.strconv_ParseInt_10_at64_ok Tryz.laysC174 s hmax v h w
open Go.RowKit in
theorem Tryz.strconv_ParseInt_10_at64_range(s:ByteArray)(hlim:s.size<=281474976710656)(h:Lib.parseIntB 64 s.data.toList= .range)(ev:Value)(w:World)(hv:w.cell? ⟨9,0,none⟩=some ev)(hev:ev= .nilIface\/∃te pe,ev= .iface te pe):
 Calls Tryz.prog 167 #[.string s, .int .i64 10, .int .i64 64] w fun e w'=>∃N,e= .returned (.tuple #[.int .i64 (Lib.intSat 64 s.data.toList), .iface 242 (.pointer (some ⟨N,0,none⟩))])/\w.heap.size<=N/\w'.heap[N]? =some (.cells #[.string ⟨#[80,97,114,115,101,73,110,116]⟩, .string s,ev] 250 (0,0))/\Below w.heap.size w w':=Any.strconv_ParseInt_10_at64_range Tryz.laysC174 s hlim h ev w hv hev
end Go.Proofs
namespace Go.Proofs.YtonmcakdofbjiaaGreatDoor
open Go.RowKit
theorem zgL{W w1:World}(hb:Below W.heap.size W w1):(∀b o,b<W.heap.size->w1.cell? ⟨b,o,none⟩=W.cell? ⟨b,o,none⟩)/\(∀b o,b<W.heap.size->w1.frozen? ⟨b,o,none⟩=W.frozen? ⟨b,o,none⟩):=
 ⟨fun b o h=>hb.cell (p:=⟨b,o,none⟩) h,fun b o h=>hb.frozen (p:=⟨b,o,none⟩) h⟩
def numOf(s:ByteArray):Int×Int:=match Lib.parseIntB 64 s.data.toList with| .ok v=>(v,0)|_=>(0,11)
theorem zal(s:ByteArray)(hs:s.size<=8796093022207)(w:World)(e1 e2:Value)(h8:w.cell? ⟨8,0,none⟩=some e1)(h9:w.cell? ⟨9,0,none⟩=some e2)(he1:∃te pe,e1= .iface te pe)(he2:∃te pe,e2= .iface te pe):
 Calls Tryz.prog 167 #[.string s, .int .i64 10, .int .i64 64] w fun e w'=>(∃v er,e= .returned (.tuple #[.int .i64 v,er])/\((er= .nilIface/\numOf s=(v,0))\/((∃N,er= .iface 242 (.pointer (some ⟨N,0,none⟩)))/\numOf s=(0,11))))/\Below w.heap.size w w':=by
 unfold numOf;rcases h:Lib.parseIntB 64 s.data.toList with v|_|_
 ·refine(Tryz.strconv_ParseInt_10_at64_ok s (by omega) v h w).mono ?_
  rintro e w' ⟨rfl,hw⟩;refine⟨⟨v, .nilIface,rfl, .inl ⟨rfl,rfl⟩⟩,?_⟩;rcases hw with rfl|⟨t,rfl⟩
  ·exact Below.refl _ _
  ·exact Lib.bytesWorld_below w 5 t
 ·refine(Any.strconv_ParseInt_10_at64_syntax Tryz.laysC174 s (by omega) h e1 w h8 (.inr he1)).mono ?_
  rintro e w' ⟨N,rfl,_,_,hb⟩;exact⟨⟨_,_,rfl, .inr ⟨⟨N,rfl⟩,rfl⟩⟩,hb⟩
 ·refine(Tryz.strconv_ParseInt_10_at64_range s (by omega) h e2 w h9 (.inr he2)).mono ?_
  rintro e w' ⟨N,rfl,_,_,hb⟩;exact⟨⟨_,_,rfl, .inr ⟨⟨N,rfl⟩,rfl⟩⟩,hb⟩
structure Three (w:World) (b:Nat):Prop where
 c0:w.cell? ⟨b,0,none⟩=some (.int .i64 0)
 c1:w.cell? ⟨b+1,0,none⟩=some (.int .i64 0)
 c2:w.cell? ⟨b+1+1,0,none⟩=some (.int .i64 0)
 f0:w.frozen? ⟨b,0,none⟩=false
 f1:w.frozen? ⟨b+1,0,none⟩=false
 f2:w.frozen? ⟨b+1+1,0,none⟩=false
 l2:b+1+1<w.heap.size
theorem xN{w w':World}{t1 t2 t3:TypeId}(hb:Below (((w.alloc (Obj.cells #[Value.int IntKind.i64 0] t1)).alloc (Obj.cells #[Value.int IntKind.i64 0] t2)).alloc (Obj.cells #[Value.int IntKind.i64 0] t3)).heap.size (((w.alloc (Obj.cells #[Value.int IntKind.i64 0] t1)).alloc (Obj.cells #[Value.int IntKind.i64 0] t2)).alloc (Obj.cells #[Value.int IntKind.i64 0] t3)) w'):Three w' w.heap.size:=by
 have q:=zgL hb;have hz:=hb.size;simp only[World.size_alloc] at hz q;refine⟨?_,?_,?_,?_,?_,?_,by omega⟩
 ·rw[q.1 _ _ (by omega)];simp[go_sem]
 ·rw[q.1 _ _ (by omega)];simp[go_sem]
 ·rw[q.1 _ _ (by omega)];simp[go_sem]
 ·rw[q.2 _ _ (by omega)];simp[go_sem]
 ·rw[q.2 _ _ (by omega)];simp[go_sem]
 ·rw[q.2 _ _ (by omega)];simp[go_sem]
theorem uf{w w':World}{t1 t2 t3:TypeId}{x y z:Value}{o:Obj}(hb:Below (((w.alloc (Obj.cells #[Value.int IntKind.i64 0] t1)).alloc (Obj.cells #[Value.int IntKind.i64 0] t2)).alloc (Obj.cells #[Value.int IntKind.i64 0] t3)).heap.size (((w.alloc (Obj.cells #[Value.int IntKind.i64 0] t1)).alloc (Obj.cells #[Value.int IntKind.i64 0] t2)).alloc (Obj.cells #[Value.int IntKind.i64 0] t3)) w'):
 Below w.heap.size w ((((w'.setCell ⟨w.heap.size,0,none⟩ x).setCell ⟨w.heap.size+1,0,none⟩ y).setCell ⟨w.heap.size+1+1,0,none⟩ z).alloc o):=by
 have hz:=hb.size;simp only[World.size_alloc] at hz;have h1:Below w.heap.size w w':=((((Below.refl _ w).alloc (Nat.le_refl _) _).alloc (by simp) _).alloc (by simp;omega) _).trans (hb.mono (by simp;omega))
 exact(((h1.setCell (Nat.le_refl _) _).setCell (by simp) _).setCell (by simp;omega) _).alloc (by simp;omega) _
theorem zca(s:ByteArray)(hs:s.size<=8796093022207)(hne:0<s.size)(hd:∀(j:Nat) (h:j<s.size),isDigit s[j].toNat=true)(w:World)(e1 e2:Value)(h8:w.cell? ⟨8,0,none⟩=some e1)(h9:w.cell? ⟨9,0,none⟩=some e2)(he1:∃te pe,e1= .iface te pe)(he2:∃te pe,e2= .iface te pe):
 Calls Tryz.prog 151 #[.string s] w fun e w'=>e= .returned (.tuple #[.int .i64 (numOf s).1, .int .i64 (numOf s).2, .int .i64 0])/\Below w.heap.size w w':=by
 have hmf:∀(fn:Fn) (first cap:Array Value) (w:World),(Instr.makeFunc fn first cap).run Tryz.prog w= .ok (.func fn first cap) w:=fun _ _ _ _=>rfl
 have hd0:isDigit (s[0]).toNat=true:=hd 0 hne;have h45:(((s[0]).toNat:Int)==45)=false:=by
  rw[beq_eq_false_iff_ne];simp only[isDigit,Bool.and_eq_true,decide_eq_true_eq] at hd0;omega
 have hlt9:9<w.heap.size:=by
  unfold World.cell? at h9
  rcases Nat.lt_or_ge 9 w.heap.size with h|h
  ·exact h
  ·rw[Array.getElem?_eq_none h] at h9;cases h9
 clear hd0;go_enter_defers Tryz.func151,Tryz.ntmps151
 go_wp2;go_loop [5] (fun c=>∃k:Nat,k<=s.size/\c= .int .i64 k) (fun c=>s.size-(intOf c).toNat)
 case atStart=>exact⟨0,Nat.zero_le _,rfl⟩
 case round=>
  obtain⟨k,hk,rfl⟩:=hrel
  by_cases hlt:k<s.size
  ·have hdk:isDigit (s[k]).toNat=true:=hd k hlt;have f1:decide (((s[k]).toNat:Int)<48)=false:=by
    simp only[isDigit,Bool.and_eq_true,decide_eq_true_eq] at hdk;simp;omega
   have f2:decide (57<((s[k]).toNat:Int))=false:=by
    simp only[isDigit,Bool.and_eq_true,decide_eq_true_eq] at hdk;simp;omega
   clear hdk;go_wp2;go_round
   case rel=>exact⟨k+1,by omega,by go_num⟩
   case measure=>simp[intOf];omega
  ·have hks:k=s.size:=by omega
   subst hks;have hz:((s.size:Int)==0)=false:=by rw[beq_eq_false_iff_ne];omega
   have h8':(((w.alloc (Obj.cells #[Value.int IntKind.i64 0] 2)).alloc (Obj.cells #[Value.int IntKind.i64 0] 30)).alloc (Obj.cells #[Value.int IntKind.i64 0] 3)).cell? ⟨8,0,none⟩=some e1:=by
    rw[World.cell?_alloc_past _ _ _ (by simp;omega),World.cell?_alloc_past _ _ _ (by simp;omega),World.cell?_alloc_past _ _ _ (by omega)];exact h8
   have h9':(((w.alloc (Obj.cells #[Value.int IntKind.i64 0] 2)).alloc (Obj.cells #[Value.int IntKind.i64 0] 30)).alloc (Obj.cells #[Value.int IntKind.i64 0] 3)).cell? ⟨9,0,none⟩=some e2:=by
    rw[World.cell?_alloc_past _ _ _ (by simp;omega),World.cell?_alloc_past _ _ _ (by simp;omega),World.cell?_alloc_past _ _ _ (by omega)];exact h9
   have P:=zal s hs _ e1 e2 h8' h9' he1 he2;clear h8' h9';go_wp2_with (go_at_call 167;refine P.mono ?_;rintro e w' ⟨⟨v,er,rfl,(⟨rfl,hn⟩|⟨⟨N,rfl⟩,hn⟩)⟩,hb⟩<;>(have q0:=(xN hb).c0;have q1:=(xN hb).c1;have q2:=(xN hb).c2;have q3:=(xN hb).f0;have q4:=(xN hb).f1;have q5:=(xN hb).f2))
   ·have l1:=(xN hb).l2;refine leaves_cons (f:=166) (args:= #[.pointer (some ⟨w.heap.size,0,none⟩), .pointer (some ⟨w.heap.size+1,0,none⟩), .pointer (some ⟨w.heap.size+1+1,0,none⟩)]) (by simp) (by simp[go_sem]) ?_
    refine(za1 _ _ _ _).mono ?_;rintro e u' w'' ⟨rfl,rfl,rfl⟩;have l2:w.heap.size<w'.heap.size:=by omega
    have l3:w.heap.size+1<w'.heap.size:=by omega
    simp[Leaves,settle,results,Tryz.results151,go_sem,hn,q0,q1,q2,l1,l2,l3];exact uf hb
   ·have l1:=(xN hb).l2;refine leaves_cons (f:=166) (args:= #[.pointer (some ⟨w.heap.size,0,none⟩), .pointer (some ⟨w.heap.size+1,0,none⟩), .pointer (some ⟨w.heap.size+1+1,0,none⟩)]) (by simp) (by simp[go_sem]) ?_
    refine(wcatch_panicking w.heap.size 11 0 w' q0 q1 q2 q3 q4 q5 l1).mono ?_;rintro e u' w'' ⟨rfl,rfl,rfl⟩;have l2:w.heap.size<w'.heap.size:=by omega
    have l3:w.heap.size+1<w'.heap.size:=by omega
    simp[Leaves,settle,results,Tryz.results151,go_sem,hn,q0,q1,q2,l1,l2,l3];exact(uf hb).drew
def uptoF(pred:Int->Bool)(s:ByteArray):Nat->Nat->Nat
 |0,i=>i
 |f+1,i=>if h:i<s.size then (if pred (s[i]).toNat then uptoF pred s f (i+1) else i) else i
def upto(pred:Int->Bool)(s:ByteArray)(i:Nat):Nat:=uptoF pred s (s.size-i) i
theorem uptoF_ge(pred:Int->Bool)(s:ByteArray):∀f i,i<=uptoF pred s f i:=by
 intro f;induction f with
 |zero=>intro i;exact Nat.le_refl _
 |succ f ih=>
  intro i;unfold uptoF;split
  ·split
   ·exact Nat.le_trans (Nat.le_succ i) (ih (i+1))
   ·exact Nat.le_refl _
  ·exact Nat.le_refl _
theorem upto_of{pred:Int->Bool}{s:ByteArray}{i k:Nat}(h:Upto pred s i k):k=upto pred s i:=by
 obtain⟨h1,h2,h3,h4⟩:=h
 have key:∀f i,i<=k->k-i<=f->(∀(j:Nat) (h:j<s.size),i<=j->j<k->pred s[j].toNat=true)->uptoF pred s f i=k:=by
  intro f;induction f with
  |zero=>intro i a b _;unfold uptoF;omega
  |succ f ih=>
   intro i a b c;unfold uptoF;by_cases e:i=k
   ·subst e;split
    ·rename_i hlt;rw[if_neg (by simp[h4 hlt])]
    ·rfl
   ·have hlt:i<s.size:=by omega
    rw[dif_pos hlt,if_pos (c i hlt (Nat.le_refl _) (by omega))]
    exact ih (i+1) (by omega) (by omega) fun j hj x y=>c j hj (by omega) y
 exact(key (s.size-i) i h1 (by omega) h3).symm
theorem upto_spec(pred:Int->Bool)(s:ByteArray)(i:Nat)(hi:i<=s.size):Upto pred s i (upto pred s i):=by
 have key:∀f i,i<=s.size->s.size-i<=f->Upto pred s i (uptoF pred s f i):=by
  intro f;induction f with
  |zero=>
   intro i a b;unfold uptoF;exact⟨Nat.le_refl _,a,fun j _ h1 h2=>by omega,fun h=>by omega⟩
  |succ f ih=>
   intro i a b;unfold uptoF;split
   ·rename_i hlt;split
    ·rename_i hp;obtain⟨x1,x2,x3,x4⟩:=ih (i+1) (by omega) (by omega)
     refine⟨by omega,x2,fun j hj h1 h2=>?_,x4⟩
     by_cases e:j=i
     ·subst e;exact hp
     ·exact x3 j hj (by omega) h2
    ·rename_i hp;exact⟨Nat.le_refl _,a,fun j _ h1 h2=>by omega,fun _=>by simpa using hp⟩
   ·exact⟨Nat.le_refl _,a,fun j _ h1 h2=>by omega,fun h=>absurd h (by assumption)⟩
 exact key _ i hi (Nat.le_refl _)
def skipF(s:ByteArray):Nat->Nat->Nat
 |0,i=>i
 |f+1,i=>if h:i<s.size then (if isBlank (s[i]).toNat then skipF s f (i+1) else if (s[i]).toNat=35 then skipF s f (upto isLine s i) else i) else i
def skipTo(s:ByteArray)(i:Nat):Nat:=skipF s (s.size-i) i
theorem wI{s:ByteArray}{i k:Nat}(h:Skips s i k)(hk:k<=s.size)(hend:∀h:k<s.size,isBlank (s[k]).toNat=false/\(s[k]).toNat≠35):∀f,s.size-i<=f->i<=k/\skipF s f i=k:=by
 induction h with
 |here k=>
  intro f hf;refine⟨Nat.le_refl _,?_⟩;cases f with
  |zero=>rfl
  |succ f=>
   unfold skipF;split
   ·rename_i hlt;obtain⟨a,b⟩:=hend hlt
    rw[if_neg (by simp[a]),if_neg b]
   ·rfl
 | @blank i k hlt hb _ ih=>
   intro f hf;cases f with
   |zero=>omega
   |succ f=>
    obtain⟨a,b⟩:=ih hk hend f (by omega)
    unfold skipF;rw[dif_pos hlt,if_pos hb];exact⟨by omega,b⟩
 | @remark i j k hlt hb hj _ ih=>
   intro f hf;cases f with
   |zero=>omega
   |succ f=>
    have hij:i<j:=by
     rcases Nat.lt_or_ge i j with h|h
     ·exact h
     ·exfalso;have e:i=j:=Nat.le_antisymm hj.1 h;subst e;have:=hj.2.2.2 hlt
      simp[isLine,hb] at this
    obtain⟨a,b⟩:=ih hk hend f (by omega)
    unfold skipF;rw[dif_pos hlt,if_neg (by simp[isBlank,hb]),if_pos hb,<-upto_of hj]
    exact⟨by omega,b⟩
structure Item where
 kind:Int
 text:ByteArray
 num:Int
 pos:Int
 code:Int
 place:Int
def Item.v(x:Item):Value:=itemV x.kind x.text x.num x.pos x.code x.place
def noItem:Item:=⟨0,⟨#[]⟩,0,0,0,0⟩
def wordAt(s:ByteArray)(i:Nat):Item:=if 16<upto yn s i-i then ⟨0,⟨#[]⟩,0,0,21,i⟩ else ⟨0,s.extract i (upto yn s i),0,i,0,0⟩
def letterAt(s:ByteArray)(i:Nat):Bool:=if h:i<s.size then isLetter (s[i]).toNat else false
def z7(s:ByteArray)(i:Nat):Bool:=if h:i<s.size then isDigit (s[i]).toNat else false
def numAt(s:ByteArray)(i:Nat):Item:=
 if (numOf (s.extract i (upto isDigit s i))).2≠0\/letterAt s (upto isDigit s i)=true then ⟨0,⟨#[]⟩,0,0,22,i⟩ else ⟨1,s.extract i (upto isDigit s i),(numOf (s.extract i (upto isDigit s i))).1,i,0,0⟩
def itemAt(s:ByteArray)(i:Nat):Item:=
 if letterAt s i then wordAt s i else if z7 s i then numAt s i else if (signAt s i).toList.isEmpty then ⟨0,⟨#[]⟩,0,0,20,i⟩ else ⟨2,signAt s i,0,i,0,0⟩
theorem zjf(s:ByteArray)(i:Nat)(w:World)(hi:i<=s.size)(hs:s.size<=8796093022207):
 Calls Tryz.prog 147 #[.string s, .int .i64 i, .func (.func 149) #[] #[]] w fun e w'=>e= .returned (.int .i64 (upto isDigit s i))/\w'=w:=
 (zbK s i w hi hs).mono fun e w' ⟨⟨k,hk,he⟩,hw⟩=>⟨by rw[he,upto_of hk],hw⟩
theorem ud(s:ByteArray)(i k j:Nat)(hk:k<=s.size)(h:j<(s.extract i k).size):∃h2:i+j<s.size,(s.extract i k)[j]=s[i+j]:=by
 have hz:(s.extract i k).size=k-i:=by simp[ByteArray.size_extract];omega
 refine⟨by omega,?_⟩
 simp[ByteArray.getElem_extract]
theorem zee(s:ByteArray)(i:Nat)(b:Nat)(w:World)(hb:w.cell? ⟨b,0,none⟩=some (.string s))(hi:i<s.size)(hs:s.size<=8796093022207):
 Calls Tryz.prog 145 #[.int .i64 i, .pointer (some ⟨b,0,none⟩)] w fun e w'=>e= .returned (.tuple #[(if letterAt s i then wordAt s i else noItem).v, .bool (letterAt s i)])/\Below w.heap.size w w':=by
 refine(zeb s i b w hb hi hs).mono ?_;rintro e w' ⟨h,hb⟩;refine⟨?_,hb⟩;rcases h with⟨h1,rfl⟩|⟨h1,k,hk,⟨h2,rfl⟩|⟨h2,rfl⟩⟩
 ·simp[letterAt,hi,h1,noItem,Item.v]
 ·have:=upto_of hk
  subst this;simp[letterAt,hi,h1,Item.v,wordAt,h2]
 ·have:=upto_of hk
  subst this;have:¬16<upto yn s i-i:=by omega
  simp[letterAt,hi,h1,Item.v,wordAt,this]
structure Six (w:World) (n:Nat) (x0 x1 x2 x3 x4 x5:Value):Prop where
 c0:w.cell? ⟨n,0,none⟩=some x0
 c1:w.cell? ⟨n,1,none⟩=some x1
 c2:w.cell? ⟨n,2,none⟩=some x2
 c3:w.cell? ⟨n,3,none⟩=some x3
 c4:w.cell? ⟨n,4,none⟩=some x4
 c5:w.cell? ⟨n,5,none⟩=some x5
 f0:w.frozen? ⟨n,0,none⟩=false
 f1:w.frozen? ⟨n,1,none⟩=false
 f2:w.frozen? ⟨n,2,none⟩=false
 f3:w.frozen? ⟨n,3,none⟩=false
 f4:w.frozen? ⟨n,4,none⟩=false
 f5:w.frozen? ⟨n,5,none⟩=false
theorem xj(w:World)(t:TypeId)(x0 x1 x2 x3 x4 x5:Value):Six (w.alloc (.cells #[x0,x1,x2,x3,x4,x5] t)) w.heap.size x0 x1 x2 x3 x4 x5:=by
 constructor<;>simp[go_sem]
theorem Six.later{w w':World}{n B:Nat}{x0 x1 x2 x3 x4 x5:Value}(h:Six w n x0 x1 x2 x3 x4 x5)(hb:Below B w w')(hn:n<B):Six w' n x0 x1 x2 x3 x4 x5:=
 ⟨(hb.cell (p:=⟨n,0,none⟩) hn).trans h.c0,(hb.cell (p:=⟨n,1,none⟩) hn).trans h.c1,(hb.cell (p:=⟨n,2,none⟩) hn).trans h.c2,(hb.cell (p:=⟨n,3,none⟩) hn).trans h.c3,(hb.cell (p:=⟨n,4,none⟩) hn).trans h.c4,(hb.cell (p:=⟨n,5,none⟩) hn).trans h.c5,
   (hb.frozen (p:=⟨n,0,none⟩) hn).trans h.f0,(hb.frozen (p:=⟨n,1,none⟩) hn).trans h.f1,(hb.frozen (p:=⟨n,2,none⟩) hn).trans h.f2,(hb.frozen (p:=⟨n,3,none⟩) hn).trans h.f3,(hb.frozen (p:=⟨n,4,none⟩) hn).trans h.f4,(hb.frozen (p:=⟨n,5,none⟩) hn).trans h.f5⟩
theorem yC{w w':World}{b:Nat}{sv:Value}{t:TypeId}{x0 x1 x2 x3 x4 x5:Value}(hbb:Below (w.alloc (.cells #[x0,x1,x2,x3,x4,x5] t)).heap.size (w.alloc (.cells #[x0,x1,x2,x3,x4,x5] t)) w')(hbl:b<w.heap.size)(hb:w.cell? ⟨b,0,none⟩=some sv):
 w'.cell? ⟨b,0,none⟩=some sv/\Six w' w.heap.size x0 x1 x2 x3 x4 x5/\w.heap.size<w'.heap.size/\Below w.heap.size w w'/\b<w'.heap.size:=by
 have hz:=hbb.size;have q:=zgL hbb;simp only[World.size_alloc] at hz q;refine⟨?_,(xj w t x0 x1 x2 x3 x4 x5).later hbb (by simp),by omega,((Below.refl _ w).alloc (Nat.le_refl _) _).trans (hbb.mono (by simp)),by omega⟩
 rw[q.1 _ _ (by omega),World.cell?_alloc_past _ _ _ hbl];exact hb
theorem jY{w w':World}{x0 x1 x2 x3 x4 x5:Value}(h:Below w.heap.size w w'):Below w.heap.size w ((((((w'.setCell ⟨w.heap.size,0,none⟩ x0).setCell ⟨w.heap.size,1,none⟩ x1).setCell ⟨w.heap.size,2,none⟩ x2).setCell ⟨w.heap.size,3,none⟩ x3).setCell ⟨w.heap.size,4,none⟩ x4).setCell ⟨w.heap.size,5,none⟩ x5):=
 (((((h.setCell (Nat.le_refl _) _).setCell (Nat.le_refl _) _).setCell (Nat.le_refl _) _).setCell (Nat.le_refl _) _).setCell (Nat.le_refl _) _).setCell (Nat.le_refl _) _
theorem zed(s:ByteArray)(i:Nat)(b:Nat)(w:World)(hb:w.cell? ⟨b,0,none⟩=some (.string s))(hi:i<s.size)(hs:s.size<=8796093022207)(e1 e2:Value)(h8:w.cell? ⟨8,0,none⟩=some e1)(h9:w.cell? ⟨9,0,none⟩=some e2)(he1:∃te pe,e1= .iface te pe)(he2:∃te pe,e2= .iface te pe):
 Calls Tryz.prog 150 #[.int .i64 i, .pointer (some ⟨b,0,none⟩)] w fun e w'=>e= .returned (.tuple #[(if z7 s i then numAt s i else noItem).v, .bool (z7 s i)])/\Below w.heap.size w w':=by
 have hbl:b<w.heap.size:=by
  unfold World.cell? at hb
  rcases Nat.lt_or_ge b w.heap.size with h|h
  ·exact h
  ·rw[Array.getElem?_eq_none h] at hb;cases hb
 have hlt9:9<w.heap.size:=by
  unfold World.cell? at h9
  rcases Nat.lt_or_ge 9 w.heap.size with h|h
  ·exact h
  ·rw[Array.getElem?_eq_none h] at h9;cases h9
 by_cases hd:isDigit (s[i]).toNat=true
 ·have hdi:z7 s i=true:=by simp[z7,hi,hd]
  rw[if_pos hdi,hdi];clear hdi;have hU:=upto_spec isDigit s i (by omega)
  unfold numAt;have A:=zjf s i;generalize upto isDigit s i=k at hU A⊢;obtain⟨x1,x2,x3,x4⟩:=hU
  have hik:i<k:=by
   rcases Nat.lt_or_ge i k with h|h
   ·exact h
   ·have e:k=i:=by omega
    subst e;rw[x4 hi] at hd;cases hd
  have hz:(s.extract i k).size=k-i:=by simp[ByteArray.size_extract];omega
  have W:=fun w h8 h9=>zca (s.extract i k) (by omega) (by omega) (fun j hj=>by
   obtain⟨h2,e⟩:=ud s i k j x2 hj
   rw[e];exact x3 (i+j) h2 (by omega) (by omega)) w e1 e2 h8 h9 he1 he2
  clear x3 x4;have hL:letterAt s k=if h:k<s.size then isLetter (s[k]).toNat else false:=rfl;generalize numOf (s.extract i k)=nv at W⊢;obtain⟨nv,ne⟩:=nv
  dsimp only at W⊢
  by_cases hne:ne=0
  ·subst hne;by_cases hlt:k<s.size
   ·by_cases hl:isLetter (s[k]).toNat=true
    ·rw[if_pos (.inr (by rw[hL,dif_pos hlt];exact hl))]
     clear hL;go_enter Tryz.func150,Tryz.ntmps150;go_wp2_with (first|(go_at_call 149;refine(xH _ _).mono ?_;rintro e w' ⟨rfl,rfl⟩)|(go_at_call 147;refine(A _ (by omega) hs).mono ?_;rintro e w' ⟨rfl,rfl⟩)|(go_at_call 146;refine(letter_any _ _).mono ?_;rintro e w' ⟨rfl,rfl⟩)|(go_at_call 151;refine(W _ (by rw[World.cell?_alloc_past _ _ _ (by omega)];exact h8) (by rw[World.cell?_alloc_past _ _ _ (by omega)];exact h9)).mono ?_;rintro e w' ⟨rfl,hbb⟩;have q0:=(yC hbb hbl hb).1;have q1:=(yC hbb hbl hb).2.1;have z0:=q1.c0;have z1:=q1.c1;have z2:=q1.c2;have z3:=q1.c3;have z4:=q1.c4;have z5:=q1.c5;have g0:=q1.f0;have g1:=q1.f1;have g2:=q1.f2;have g3:=q1.f3;have g4:=q1.f4;have g5:=q1.f5;clear q1;have q2:=(yC hbb hbl hb).2.2.1;have q3:=(yC hbb hbl hb).2.2.2.1;have q4:=(yC hbb hbl hb).2.2.2.2));refine bodyPost_ret (v:= .tuple #[(⟨0,⟨#[]⟩,0,0,22,i⟩:Item).v, .bool true]) (by simp[results,Tryz.f150,itemV,Item.v,go_sem,q2,z0,z1,z2,z3,z4,z5];try rfl) rfl ?_
     exact⟨rfl,jY q3⟩
    ·have hl':isLetter (s[k]).toNat=false:=by simpa using hl
     rw[if_neg (by rw[hL,dif_pos hlt,hl'];simp)]
     clear hL hl;go_enter Tryz.func150,Tryz.ntmps150;go_wp2_with (first|(go_at_call 149;refine(xH _ _).mono ?_;rintro e w' ⟨rfl,rfl⟩)|(go_at_call 147;refine(A _ (by omega) hs).mono ?_;rintro e w' ⟨rfl,rfl⟩)|(go_at_call 146;refine(letter_any _ _).mono ?_;rintro e w' ⟨rfl,rfl⟩)|(go_at_call 151;refine(W _ (by rw[World.cell?_alloc_past _ _ _ (by omega)];exact h8) (by rw[World.cell?_alloc_past _ _ _ (by omega)];exact h9)).mono ?_;rintro e w' ⟨rfl,hbb⟩;have q0:=(yC hbb hbl hb).1;have q1:=(yC hbb hbl hb).2.1;have z0:=q1.c0;have z1:=q1.c1;have z2:=q1.c2;have z3:=q1.c3;have z4:=q1.c4;have z5:=q1.c5;have g0:=q1.f0;have g1:=q1.f1;have g2:=q1.f2;have g3:=q1.f3;have g4:=q1.f4;have g5:=q1.f5;clear q1;have q2:=(yC hbb hbl hb).2.2.1;have q3:=(yC hbb hbl hb).2.2.2.1;have q4:=(yC hbb hbl hb).2.2.2.2));refine bodyPost_ret (v:= .tuple #[(⟨1,s.extract i k,nv,i,0,0⟩:Item).v, .bool true]) (by simp[results,Tryz.f150,itemV,Item.v,go_sem,q2,z0,z1,z2,z3,z4,z5];try rfl) rfl ?_
     exact⟨rfl,jY q3⟩
   ·rw[if_neg (by rw[hL,dif_neg hlt];simp)]
    clear hL;go_enter Tryz.func150,Tryz.ntmps150;go_wp2_with (first|(go_at_call 149;refine(xH _ _).mono ?_;rintro e w' ⟨rfl,rfl⟩)|(go_at_call 147;refine(A _ (by omega) hs).mono ?_;rintro e w' ⟨rfl,rfl⟩)|(go_at_call 146;refine(letter_any _ _).mono ?_;rintro e w' ⟨rfl,rfl⟩)|(go_at_call 151;refine(W _ (by rw[World.cell?_alloc_past _ _ _ (by omega)];exact h8) (by rw[World.cell?_alloc_past _ _ _ (by omega)];exact h9)).mono ?_;rintro e w' ⟨rfl,hbb⟩;have q0:=(yC hbb hbl hb).1;have q1:=(yC hbb hbl hb).2.1;have z0:=q1.c0;have z1:=q1.c1;have z2:=q1.c2;have z3:=q1.c3;have z4:=q1.c4;have z5:=q1.c5;have g0:=q1.f0;have g1:=q1.f1;have g2:=q1.f2;have g3:=q1.f3;have g4:=q1.f4;have g5:=q1.f5;clear q1;have q2:=(yC hbb hbl hb).2.2.1;have q3:=(yC hbb hbl hb).2.2.2.1;have q4:=(yC hbb hbl hb).2.2.2.2));refine bodyPost_ret (v:= .tuple #[(⟨1,s.extract i k,nv,i,0,0⟩:Item).v, .bool true]) (by simp[results,Tryz.f150,itemV,Item.v,go_sem,q2,z0,z1,z2,z3,z4,z5];try rfl) rfl ?_
    exact⟨rfl,jY q3⟩
  ·have z1':(ne==0)=false:=by rw[beq_eq_false_iff_ne];exact hne
   have z2':(ne !=0)=true:=by simp[hne]
   rw[if_pos (.inl hne)];clear hL hne;go_enter Tryz.func150,Tryz.ntmps150;go_wp2_with (first|(go_at_call 149;refine(xH _ _).mono ?_;rintro e w' ⟨rfl,rfl⟩)|(go_at_call 147;refine(A _ (by omega) hs).mono ?_;rintro e w' ⟨rfl,rfl⟩)|(go_at_call 146;refine(letter_any _ _).mono ?_;rintro e w' ⟨rfl,rfl⟩)|(go_at_call 151;refine(W _ (by rw[World.cell?_alloc_past _ _ _ (by omega)];exact h8) (by rw[World.cell?_alloc_past _ _ _ (by omega)];exact h9)).mono ?_;rintro e w' ⟨rfl,hbb⟩;have q0:=(yC hbb hbl hb).1;have q1:=(yC hbb hbl hb).2.1;have z0:=q1.c0;have z1:=q1.c1;have z2:=q1.c2;have z3:=q1.c3;have z4:=q1.c4;have z5:=q1.c5;have g0:=q1.f0;have g1:=q1.f1;have g2:=q1.f2;have g3:=q1.f3;have g4:=q1.f4;have g5:=q1.f5;clear q1;have q2:=(yC hbb hbl hb).2.2.1;have q3:=(yC hbb hbl hb).2.2.2.1;have q4:=(yC hbb hbl hb).2.2.2.2));refine bodyPost_ret (v:= .tuple #[(⟨0,⟨#[]⟩,0,0,22,i⟩:Item).v, .bool true]) (by simp[results,Tryz.f150,itemV,Item.v,go_sem,q2,z0,z1,z2,z3,z4,z5];try rfl) rfl ?_
   exact⟨rfl,jY q3⟩
 ·have hdi:z7 s i=false:=by simp[z7,hi];simpa using hd
  rw[hdi];simp only[Bool.false_eq_true,if_false];have hd':isDigit (s[i]).toNat=false:=by simpa using hd
  clear hdi hd;go_enter Tryz.func150,Tryz.ntmps150;go_wp2_with (first|(go_at_call 149;refine(xH _ _).mono ?_;rintro e w' ⟨rfl,rfl⟩));refine bodyPost_ret (v:= .tuple #[noItem.v, .bool false]) (by simp[results,Tryz.f150,itemV,noItem,Item.v,go_sem];try rfl) rfl ?_
  exact⟨rfl,by first|exact(Below.refl _ w).alloc (Nat.le_refl _) _|exact((Below.refl _ w).alloc (Nat.le_refl _) _).setCell (Nat.le_refl _) _⟩
end Go.Proofs.YtonmcakdofbjiaaGreatDoor
