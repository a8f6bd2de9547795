/- A part. -/
import Derived.Test.YtonmcakdofbjiaaGreatDoorZ20
import Derived.Deep.Cut
import Derived.BigQuiet
import Derived.Test.YtonmcakdofbjiaaGreatDoorZ14
import Derived.Test.YtonmcakdofbjiaaGreatDoorZ18
import Derived.Deep.Onto
import Derived.StillTailTactics
import Derived.Laws.AppendOwnNone
import Derived.Deep.AppendLies
set_option linter.all false
set_option maxRecDepth 100000
set_option maxHeartbeats 8000000
namespace Go.Proofs.YtonmcakdofbjiaaGreatDoor
open Go.RowKit
def qJ:List ByteArray:=[⟨#[60,61]⟩,⟨#[62,61]⟩,⟨#[61,61]⟩,⟨#[33,61]⟩,⟨#[38,38]⟩,⟨#[124,124]⟩,⟨#[58,61]⟩]
def ub:List ByteArray:=[⟨#[43]⟩,⟨#[45]⟩,⟨#[42]⟩,⟨#[47]⟩,⟨#[37]⟩,⟨#[60]⟩,⟨#[62]⟩,⟨#[33]⟩,⟨#[40]⟩,⟨#[41]⟩,⟨#[91]⟩,⟨#[93]⟩,⟨#[123]⟩,⟨#[125]⟩,⟨#[59]⟩]
def signsL:List ByteArray:=qJ++ub
theorem zeJ(w:World):Calls Tryz.prog 128 #[] w fun e w'=>e= .returned (.slice (some ⟨w.heap.size,0,none⟩) 22 22)/\w'=w.alloc (.cells (signsL.map Value.string).toArray 9):=by
 go_enter Tryz.func128,Tryz.ntmps128
 go_wp2
 go_ret
 exact⟨rfl,rfl⟩
def yj(s:ByteArray)(i:Nat)(t:ByteArray):Bool:=decide (i+t.size<=s.size)&&((s.extract i (i+t.size)).toList==t.toList)
theorem zh5:twos=qJ.map (·.toList):=by
 simp only[twos,qJ,List.map_cons,List.map_nil,ByteArray.toList_eq]
theorem we:∀t∈qJ,t.size=2:=by decide
theorem zdB:∀t∈ub,t.size=1:=by decide
theorem gK{s:ByteArray}{i:Nat}{t:ByteArray}(ht:t∈qJ):yj s i t=(decide (i+1<s.size)&&((s.extract i (i+2)).toList==t.toList)):=by
 have h2:t.size=2:=we t ht
 unfold yj
 rw[h2]
 congr 1
theorem zjA{a b:ByteArray}(h:a.toList=b.toList):a=b:=by
 rw[ByteArray.toList_eq,ByteArray.toList_eq] at h
 obtain⟨⟨x⟩⟩:=a
 obtain⟨⟨y⟩⟩:=b
 have h':x=y:=h
 rw[h']
theorem zcg{s:ByteArray}{i:Nat}(hi:i<s.size):(s.extract i (i+1)).toList=[s[i]]:=by
 rw[ByteArray.toList_eq,ByteArray.data_extract,Array.toList_extract]
 have:i<s.data.toList.length:=by rw[Array.length_toList];exact hi
 rw[List.extract_eq_take_drop]
 rw[show i+1-i=1 by omega,List.take_one,List.head?_drop,List.getElem?_eq_getElem this]
 rfl
theorem one_match{s:ByteArray}{i:Nat}(hi:i<s.size):ones.any (fun t=>((s[i]).toNat:Int)==t)=ub.any (yj s i):=by
 have e:∀c:UInt8,yj s i ⟨#[c]⟩=decide ((s[i]).toNat=c.toNat):=fun c=>by
  unfold yj
  rw[show(⟨#[c]⟩:ByteArray).size=1 from rfl,decide_eq_true (by omega),Bool.true_and,zcg hi,ByteArray.toList_eq]
  show([s[i]]==[c])=_
  by_cases h:s[i]=c
  ·subst h;simp
  ·have:¬(s[i]).toNat=c.toNat:=fun h'=>h (UInt8.toNat_inj.1 h')
   simp[h,this]
 have k:∀n:Nat,(((s[i]).toNat:Int)==(n:Int))=decide ((s[i]).toNat=n):=fun n=>by
  by_cases h:(s[i]).toNat=n<;>simp[h]<;>omega
 simp only[ones,ub,List.any_cons,List.any_nil,e]
 rw[show(43:Int)=((43:Nat):Int) from rfl,show(45:Int)=((45:Nat):Int) from rfl,show(42:Int)=((42:Nat):Int) from rfl,show(47:Int)=((47:Nat):Int) from rfl,show(37:Int)=((37:Nat):Int) from rfl,show(60:Int)=((60:Nat):Int) from rfl,show(62:Int)=((62:Nat):Int) from rfl,show(33:Int)=((33:Nat):Int) from rfl,show(40:Int)=((40:Nat):Int) from rfl,show(41:Int)=((41:Nat):Int) from rfl,show(91:Int)=((91:Nat):Int) from rfl,show(93:Int)=((93:Nat):Int) from rfl,show(123:Int)=((123:Nat):Int) from rfl,show(125:Int)=((125:Nat):Int) from rfl,show(59:Int)=((59:Nat):Int) from rfl]
 simp only[k]
 rfl
theorem zcE{s:ByteArray}{i:Nat}(hi:i<s.size):signAt s i=if qJ.any (yj s i) then s.extract i (i+2) else if ub.any (yj s i) then s.extract i (i+1) else ⟨#[]⟩:=by
 unfold signAt
 have e:(i+1<s.size/\(twos.any fun t=>(s.extract i (i+2)).toList==t)=true)↔qJ.any (yj s i)=true:=by
  rw[zh5,List.any_map]
  have h:qJ.any (yj s i)=qJ.any (fun t=>decide (i+1<s.size)&&((s.extract i (i+2)).toList==t.toList)):=by
   rw[Bool.eq_iff_iff,List.any_eq_true,List.any_eq_true]
   exact⟨fun⟨t,h1,h2⟩=>⟨t,h1,by rw[<-gK h1];exact h2⟩,fun⟨t,h1,h2⟩=>⟨t,h1,by rw[gK h1];exact h2⟩⟩
  rw[h,List.any_eq_true,List.any_eq_true]
  constructor
  ·rintro⟨h1,t,h2,h3⟩
   exact⟨t,h2,by rw[decide_eq_true h1];exact h3⟩
  ·rintro⟨t,h2,h3⟩
   rw[Bool.and_eq_true,decide_eq_true_eq] at h3
   exact⟨h3.1,t,h2,h3.2⟩
 rw[dif_pos hi,one_match hi]
 by_cases h:qJ.any (yj s i)=true
 ·rw[if_pos (e.2 h),if_pos h]
 ·rw[if_neg (fun h'=>h (e.1 h')),if_neg h]
theorem za5{s:ByteArray}{i:Nat}{t:ByteArray}(h:yj s i t=true):i+t.size<=s.size/\s.extract i (i+t.size)=t:=by
 unfold yj at h
 rw[Bool.and_eq_true,decide_eq_true_eq] at h
 exact⟨h.1,zjA (by simpa using h.2)⟩
theorem zdn{s:ByteArray}{i k:Nat}{t:ByteArray}(hi:i<s.size)(ht:signsL[k]? =some t)(hm:yj s i t=true)(hn:∀(j:Nat) (u:ByteArray),j<k->signsL[j]? =some u->yj s i u=false):signAt s i=t:=by
 obtain⟨_,he⟩:=za5 hm
 rw[zcE hi]
 by_cases h7:k<7
 ·have hin:qJ[k]? =some t:=by rw[<-ht];unfold signsL;rw[List.getElem?_append_left (by exact h7)]
  have hmem:=List.mem_of_getElem? hin
  have h2:t.size=2:=we t hmem
  rw[if_pos (List.any_eq_true.2 ⟨t,hmem,hm⟩)]
  rw[h2] at he
  exact he
 ·have hin:ub[k-7]? =some t:=by rw[<-ht];unfold signsL;rw[List.getElem?_append_right (by show 7<=k;omega)];rfl
  have hmem:=List.mem_of_getElem? hin
  have h1:t.size=1:=zdB t hmem
  rw[if_neg,if_pos (List.any_eq_true.2 ⟨t,hmem,hm⟩)]
  ·rw[h1] at he
   exact he
  ·intro h
   obtain⟨u,hu,hmu⟩:=List.any_eq_true.1 h
   obtain⟨j,hj⟩:=List.mem_iff_getElem?.1 hu
   have hj7:j<7:=(List.getElem?_eq_some_iff.1 hj).1
   have:=hn j u (by omega) (by unfold signsL;rw[List.getElem?_append_left (by exact hj7)];exact hj)
   rw[this] at hmu
   cases hmu
theorem sign_none{s:ByteArray}{i:Nat}(hi:i<s.size)(hn:∀(j:Nat) (u:ByteArray),signsL[j]? =some u->yj s i u=false):signAt s i=⟨#[]⟩:=by
 have hall:∀u∈signsL,yj s i u=false:=fun u hu=>by
  obtain⟨j,hj⟩:=List.mem_iff_getElem?.1 hu
  exact hn j u hj
 rw[zcE hi,if_neg,if_neg]
 ·intro h
  obtain⟨u,hu,hmu⟩:=List.any_eq_true.1 h
  rw[hall u (List.mem_append_right _ hu)] at hmu
  cases hmu
 ·intro h
  obtain⟨u,hu,hmu⟩:=List.any_eq_true.1 h
  rw[hall u (List.mem_append_left _ hu)] at hmu
  cases hmu
def pieceV(x:Item):Value:= .tuple #[.agg #[.int .i64 x.kind, .string x.text, .int .i64 x.num, .int .i64 x.pos], .int .i64 x.code]
theorem Kin.setCell{w0 w:World}(h:Kin w0 w){g o:Nat}(hg:w0.heap.size<=g)(u:Value):Kin w0 (w.setCell ⟨g,o,none⟩ u):=by
 refine⟨?_,?_,?_,fun k hk=>?_⟩
 ·rw[<-h.os];rfl
 ·rw[<-h.out];rfl
 ·have:=h.size;simpa using this
 ·rw[Below.heap_setCell _ _ _ _ (by simp;omega)];exact h.block k hk
theorem zaU(s:ByteArray)(i:Nat)(w:World)(hi:i<s.size)(hs:s.size<=8796093022207)(hl:isLetter (s[i]).toNat=true):
 Calls Tryz.prog 87 #[.string s, .int .i64 i] w fun e w'=>e= .returned (pieceV (wordAt s i))/\Kin w w':=by
 go_enter Tryz.func87,Tryz.ntmps87
 go_wp2_with (go_at_call 124;with_reducible refine(rletter_any _ _).mono ?_;rintro e w' ⟨rfl,he⟩;obtain rfl:=he.symm)
 go_loop [6] (fun c=>∃k:Nat,i<=k/\k<=s.size/\c= .int .i64 k/\∀(j:Nat) (h:j<s.size),i<=j->j<k->zz s[j].toNat=true)
  (fun c=>s.size-(intOf c).toNat)
 case atStart=>exact⟨i,Nat.le_refl _,by omega,rfl,fun j _ h1 h2=>by omega⟩
 case round=>
  obtain⟨k,h1,h2,rfl,h3⟩:=hrel
  have H3:=Lib.hid h3
  clear h3
  by_cases hlt:k<s.size
  ·cases hk:isLetter (s[k]).toNat with
   |true=>
    go_wp2_with (go_at_call 124;with_reducible refine(rletter_any _ _).mono ?_;rintro e w' ⟨rfl,he⟩;obtain rfl:=he.symm)
    go_round
    case rel=>
     refine⟨k+1,by omega,by omega,by go_num,fun j hj a b=>?_⟩
     by_cases e:j=k
     ·subst e;simp only[zz,hk,Bool.true_or]
     ·exact H3.out j hj a (by omega)
    case measure=>simp[intOf];omega
   |false=>
    cases hd:isDigit (s[k]).toNat with
    |true=>
     go_wp2_with (first|(go_at_call 124;with_reducible refine(rletter_any _ _).mono ?_;rintro e w' ⟨rfl,he⟩;obtain rfl:=he.symm)|(go_at_call 125;with_reducible refine(yQ _ _).mono ?_;rintro e w' ⟨rfl,he⟩;obtain rfl:=he.symm))
     go_round
     case rel=>
      refine⟨k+1,by omega,by omega,by go_num,fun j hj a b=>?_⟩
      by_cases e:j=k
      ·subst e;simp only[zz,hk,hd,Bool.or_true]
      ·exact H3.out j hj a (by omega)
     case measure=>simp[intOf];omega
    |false=>
     have hu:k=upto zz s i:=upto_of ⟨h1,h2,H3.out,fun h=>by simp only[zz,hk,hd,Bool.or_false]⟩
     have HU:=Lib.hid hu
     clear hu
     by_cases h16:16<k-i
     ·have hv:wordAt s i=⟨0,⟨#[]⟩,0,0,21,i⟩:=by unfold wordAt;rw[<-HU.out,if_pos h16]
      have h16':16<(k:Int)-i:=by omega
      have HV:=Lib.hid hv
      clear hv
      go_wp2_with (first|(go_at_call 124;with_reducible refine(rletter_any _ _).mono ?_;rintro e w' ⟨rfl,he⟩;obtain rfl:=he.symm)|(go_at_call 125;with_reducible refine(yQ _ _).mono ?_;rintro e w' ⟨rfl,he⟩;obtain rfl:=he.symm))
      refine bodyPost_ret (v:=pieceV ⟨0,⟨#[]⟩,0,0,21,i⟩) (by simp[results,Tryz.f87,pieceV,go_sem];try rfl) rfl ?_
      exact⟨congrArg (fun x=>Ending.returned (pieceV x)) HV.out.symm,(Kin.refl w).alloc _⟩
     ·have hv:wordAt s i=⟨0,s.extract i k,0,i,0,0⟩:=by unfold wordAt;rw[<-HU.out,if_neg h16]
      have h16':¬16<(k:Int)-i:=by omega
      have HV:=Lib.hid hv
      clear hv
      go_wp2_with (first|(go_at_call 124;with_reducible refine(rletter_any _ _).mono ?_;rintro e w' ⟨rfl,he⟩;obtain rfl:=he.symm)|(go_at_call 125;with_reducible refine(yQ _ _).mono ?_;rintro e w' ⟨rfl,he⟩;obtain rfl:=he.symm))
      refine bodyPost_ret (v:=pieceV ⟨0,s.extract i k,0,i,0,0⟩) (by simp[results,Tryz.f87,pieceV,go_sem];try rfl) rfl ?_
      exact⟨congrArg (fun x=>Ending.returned (pieceV x)) HV.out.symm,(Kin.refl w).alloc _⟩
  ·have hu:k=upto zz s i:=upto_of ⟨h1,h2,H3.out,fun h=>absurd h hlt⟩
   have HU:=Lib.hid hu
   clear hu
   by_cases h16:16<k-i
   ·have hv:wordAt s i=⟨0,⟨#[]⟩,0,0,21,i⟩:=by unfold wordAt;rw[<-HU.out,if_pos h16]
    have h16':16<(k:Int)-i:=by omega
    have HV:=Lib.hid hv
    clear hv
    go_wp2_with fail
    refine bodyPost_ret (v:=pieceV ⟨0,⟨#[]⟩,0,0,21,i⟩) (by simp[results,Tryz.f87,pieceV,go_sem];try rfl) rfl ?_
    exact⟨congrArg (fun x=>Ending.returned (pieceV x)) HV.out.symm,(Kin.refl w).alloc _⟩
   ·have hv:wordAt s i=⟨0,s.extract i k,0,i,0,0⟩:=by unfold wordAt;rw[<-HU.out,if_neg h16]
    have h16':¬16<(k:Int)-i:=by omega
    have HV:=Lib.hid hv
    clear hv
    go_wp2_with fail
    refine bodyPost_ret (v:=pieceV ⟨0,s.extract i k,0,i,0,0⟩) (by simp[results,Tryz.f87,pieceV,go_sem];try rfl) rfl ?_
    exact⟨congrArg (fun x=>Ending.returned (pieceV x)) HV.out.symm,(Kin.refl w).alloc _⟩
theorem zbI{s:ByteArray}{i k:Nat}(h:Upto isDigit s i k):∀c∈(s.extract i k).data.toList,Dg c:=by
 intro c hc
 obtain⟨j,hj,rfl⟩:=List.mem_iff_getElem.1 hc
 have hj2:j<(s.extract i k).size:=by rw[Array.length_toList] at hj;exact hj
 obtain⟨h2,he⟩:=jj s i k j h.2.1 hj2
 have e:(s.extract i k).data.toList[j]=(s.extract i k)[j]:=Array.getElem_toList _
 rw[e,he]
 have hsz:(s.extract i k).size=k-i:=by have:=h.2.1;simp[ByteArray.size_extract];omega
 have:=h.2.2.1 (i+j) h2 (by omega) (by omega)
 unfold isDigit at this
 unfold Dg
 simp at this
 omega
theorem zbZ(s:ByteArray)(i:Nat)(w:World)(hi:i<s.size)(hs:s.size<=8796093022207)(hl:isLetter (s[i]).toNat=false)(hd:isDigit (s[i]).toNat=true):
 Calls Tryz.prog 87 #[.string s, .int .i64 i] w fun e w'=>e= .returned (pieceV (numAt s i))/\Kin w w':=by
 go_enter Tryz.func87,Tryz.ntmps87
 go_wp2_with (first|(go_at_call 124;with_reducible refine(rletter_any _ _).mono ?_;rintro e w' ⟨rfl,he⟩;obtain rfl:=he.symm)|(go_at_call 125;with_reducible refine(yQ _ _).mono ?_;rintro e w' ⟨rfl,he⟩;obtain rfl:=he.symm))
 go_loop [6] (fun c=>∃k:Nat,i<=k/\k<=s.size/\c= .int .i64 k/\∀(j:Nat) (h:j<s.size),i<=j->j<k->isDigit s[j].toNat=true)
  (fun c=>s.size-(intOf c).toNat)
 case atStart=>exact⟨i,Nat.le_refl _,by omega,rfl,fun j _ h1 h2=>by omega⟩
 case round=>
  obtain⟨k,h1,h2,rfl,h3⟩:=hrel
  have H3:=Lib.hid h3
  clear h3
  by_cases hgo:∃hlt:k<s.size,isDigit (s[k]).toNat=true
  ·obtain⟨hlt,hk⟩:=hgo
   go_wp2_with (go_at_call 125;with_reducible refine(yQ _ _).mono ?_;rintro e w' ⟨rfl,he⟩;obtain rfl:=he.symm)
   go_round
   case rel=>
    refine⟨k+1,by omega,by omega,by go_num,fun j hj a b=>?_⟩
    by_cases e:j=k
    ·subst e;exact hk
    ·exact H3.out j hj a (by omega)
   case measure=>simp[intOf];omega
  ·have hup:Upto isDigit s i k:=⟨h1,h2,H3.out,fun h=>by simpa using fun h'=>hgo ⟨h,h'⟩⟩
   have hik:i<k:=by
    rcases Nat.lt_or_ge i k with h|h
    ·exact h
    ·obtain rfl:i=k:=by omega
     exact absurd ⟨hi,hd⟩ hgo
   have hdig:=zbI hup
   have hsz:(s.extract i k).size=k-i:=by simp[ByteArray.size_extract];omega
   obtain⟨n1,n2⟩:=za0 (s.extract i k) (by omega) hdig
   have hu:k=upto isDigit s i:=upto_of hup
   have hv:numAt s i=if (numOf (s.extract i k)).2≠0\/letterAt s k=true then ⟨0,⟨#[]⟩,0,0,22,i⟩ else ⟨1,s.extract i k,(numOf (s.extract i k)).1,i,0,0⟩:=by unfold numAt;rw[<-hu]
   have HSM:=Lib.hid (zeI (s.extract i k) · (by omega) hdig)
   by_cases hsm:digitsN (s.extract i k).data.toList 0<9223372036854775808
   ·have HVL:=Lib.hid (zex (s.extract i k) · (by omega) hdig hsm)
    rw[n1 hsm] at hv
    rw[decide_eq_true hsm] at HSM
    generalize digitsN (s.extract i k).data.toList 0=N at hv HVL
    clear hdig n1 n2 hu hup
    by_cases hlt:k<s.size
    ·have hk:isDigit (s[k]).toNat=false:=by simpa using fun h'=>hgo ⟨hlt,h'⟩
     have hla:letterAt s k=isLetter (s[k]).toNat:=by unfold letterAt;rw[dif_pos hlt]
     rw[hla] at hv
     cases hlk:isLetter (s[k]).toNat with
     |true=>
      rw[hlk,if_pos (.inr rfl)] at hv
      have HV:=Lib.hid hv
      clear hv hla
      go_wp2_with (first|(go_at_call 124;with_reducible refine(rletter_any _ _).mono ?_;rintro e w' ⟨rfl,he⟩;obtain rfl:=he.symm)|(go_at_call 125;with_reducible refine(yQ _ _).mono ?_;rintro e w' ⟨rfl,he⟩;obtain rfl:=he.symm)|(go_at_call 126;with_reducible refine(HSM.out _).mono ?_;rintro e w' ⟨rfl,he⟩;obtain rfl:=he.symm))
      refine bodyPost_ret (v:=pieceV ⟨0,⟨#[]⟩,0,0,22,i⟩) (by simp[results,Tryz.f87,pieceV,go_sem];try rfl) rfl ?_
      exact⟨congrArg (fun x=>Ending.returned (pieceV x)) HV.out.symm,(Kin.refl w).alloc _⟩
     |false=>
      rw[hlk,if_neg (by simp)] at hv
      have HV:=Lib.hid hv
      clear hv hla
      go_upto_region 13 with(first|(go_at_call 124;with_reducible refine(rletter_any _ _).mono ?_;rintro e w' ⟨rfl,he⟩;obtain rfl:=he.symm)|(go_at_call 125;with_reducible refine(yQ _ _).mono ?_;rintro e w' ⟨rfl,he⟩;obtain rfl:=he.symm)|(go_at_call 126;with_reducible refine(HSM.out _).mono ?_;rintro e w' ⟨rfl,he⟩;obtain rfl:=he.symm))
      go_region_with (go_at_call 127;with_reducible refine(HVL.out _).mono ?_;rintro e w' ⟨rfl,he⟩;obtain rfl:=he.symm)
      go_wp2_with fail
      refine bodyPost_ret (v:=pieceV ⟨1,s.extract i k,N,i,0,0⟩) (by simp[results,Tryz.f87,pieceV,go_sem];try rfl) rfl ?_
      exact⟨congrArg (fun x=>Ending.returned (pieceV x)) HV.out.symm,((Kin.refl w).alloc _).drewN 1⟩
    ·have hla:letterAt s k=false:=by unfold letterAt;rw[dif_neg hlt]
     rw[hla,if_neg (by simp)] at hv
     have HV:=Lib.hid hv
     clear hv hla
     go_upto_region 13 with(go_at_call 126;with_reducible refine(HSM.out _).mono ?_;rintro e w' ⟨rfl,he⟩;obtain rfl:=he.symm)
     go_region_with (go_at_call 127;with_reducible refine(HVL.out _).mono ?_;rintro e w' ⟨rfl,he⟩;obtain rfl:=he.symm)
     go_wp2_with fail
     refine bodyPost_ret (v:=pieceV ⟨1,s.extract i k,N,i,0,0⟩) (by simp[results,Tryz.f87,pieceV,go_sem];try rfl) rfl ?_
     exact⟨congrArg (fun x=>Ending.returned (pieceV x)) HV.out.symm,((Kin.refl w).alloc _).drewN 1⟩
   ·have hne:=n2 hsm
    rw[if_pos (.inl hne)] at hv
    rw[decide_eq_false hsm] at HSM
    have HV:=Lib.hid hv
    clear hv hdig n1 n2 hu hup
    by_cases hlt:k<s.size
    ·have hk:isDigit (s[k]).toNat=false:=by simpa using fun h'=>hgo ⟨hlt,h'⟩
     go_wp2_with (first|(go_at_call 125;with_reducible refine(yQ _ _).mono ?_;rintro e w' ⟨rfl,he⟩;obtain rfl:=he.symm)|(go_at_call 126;with_reducible refine(HSM.out _).mono ?_;rintro e w' ⟨rfl,he⟩;obtain rfl:=he.symm))
     refine bodyPost_ret (v:=pieceV ⟨0,⟨#[]⟩,0,0,22,i⟩) (by simp[results,Tryz.f87,pieceV,go_sem];try rfl) rfl ?_
     exact⟨congrArg (fun x=>Ending.returned (pieceV x)) HV.out.symm,(Kin.refl w).alloc _⟩
    ·go_wp2_with (go_at_call 126;with_reducible refine(HSM.out _).mono ?_;rintro e w' ⟨rfl,he⟩;obtain rfl:=he.symm)
     refine bodyPost_ret (v:=pieceV ⟨0,⟨#[]⟩,0,0,22,i⟩) (by simp[results,Tryz.f87,pieceV,go_sem];try rfl) rfl ?_
     exact⟨congrArg (fun x=>Ending.returned (pieceV x)) HV.out.symm,(Kin.refl w).alloc _⟩
theorem zbQ:∀t∈signsL,t.size<=2/\1<=t.size:=by decide
theorem zdu(s:ByteArray)(i:Nat)(w:World)(hi:i<s.size)(hs:s.size<=8796093022207)(hl:isLetter (s[i]).toNat=false)(hd:isDigit (s[i]).toNat=false):
 Calls Tryz.prog 87 #[.string s, .int .i64 i] w fun e w'=>e= .returned (pieceV (if (signAt s i).toList.isEmpty then ⟨0,⟨#[]⟩,0,0,20,i⟩ else ⟨2,signAt s i,0,i,0,0⟩))/\Kin w w':=by
 generalize hR:(if (signAt s i).toList.isEmpty then (⟨0,⟨#[]⟩,0,0,20,i⟩:Item) else ⟨2,signAt s i,0,i,0,0⟩)=R
 have HR:=Lib.hid hR
 clear hR
 go_enter Tryz.func87,Tryz.ntmps87
 go_upto_region 15 with(first|(go_at_call 124;with_reducible refine(rletter_any _ _).mono ?_;rintro e w' ⟨rfl,he⟩;obtain rfl:=he.symm)|(go_at_call 125;with_reducible refine(yQ _ _).mono ?_;rintro e w' ⟨rfl,he⟩;obtain rfl:=he.symm)|(go_at_call 128;with_reducible refine(zeJ _).mono ?_;rintro e w' ⟨rfl,he⟩;obtain rfl:=he.symm))
 have hcell:∀(k:Nat) (t:ByteArray),signsL[k]? =some t->((w.alloc (.cells #[.int .i64 0, .string ⟨#[]⟩, .int .i64 0, .int .i64 0] 140)).alloc (.cells (signsL.map Value.string).toArray 9)).cell? ⟨w.heap.size+1,k,none⟩=some (.string t):=fun k t h=>by
  rw[World.cell?_alloc_at _ _ _ _ (by simp)]
  simp[h]
 have hz:∀(k:Nat),k<4->∃v,((w.alloc (.cells #[.int .i64 0, .string ⟨#[]⟩, .int .i64 0, .int .i64 0] 140)).alloc (.cells (signsL.map Value.string).toArray 9)).cell? ⟨w.heap.size,k,none⟩=some v:=fun k h=>by
  rw[World.cell?_alloc_past _ _ _ (by simp),World.cell?_alloc_at _ _ _ _ rfl]
  exact⟨_,Array.getElem?_eq_getElem (by simpa using h)⟩
 have hf:∀k,((w.alloc (.cells #[.int .i64 0, .string ⟨#[]⟩, .int .i64 0, .int .i64 0] 140)).alloc (.cells (signsL.map Value.string).toArray 9)).frozen? ⟨w.heap.size,k,none⟩=false:=fun k=>by simp[go_sem]
 have hK:Kin w ((w.alloc (.cells #[.int .i64 0, .string ⟨#[]⟩, .int .i64 0, .int .i64 0] 140)).alloc (.cells (signsL.map Value.string).toArray 9)):=((Kin.refl w).alloc _).alloc _
 have hlt2:w.heap.size+1<((w.alloc (.cells #[.int .i64 0, .string ⟨#[]⟩, .int .i64 0, .int .i64 0] 140)).alloc (.cells (signsL.map Value.string).toArray 9)).heap.size:=by simp
 have hB:w.heap.size<=w.heap.size:=Nat.le_refl _
 generalize ((w.alloc (.cells #[.int .i64 0, .string ⟨#[]⟩, .int .i64 0, .int .i64 0] 140)).alloc (.cells (signsL.map Value.string).toArray 9))=W at*
 obtain⟨B,hBB⟩:∃B,B=w.heap.size:=⟨_,rfl⟩
 rw[<-hBB] at hcell hz hf hlt2 hB
 rw[<-hBB]
 have HC:=Lib.hid hcell
 have HZ:=Lib.hid hz
 have HF:=Lib.hid hf
 have HK:=Lib.hid hK
 have HB:=Lib.hid hBB
 clear hcell hz hf hK hBB hB
 go_wp2_with fail
 go_loopg [8,9] 22 (fun g x y wq=>∃k:Nat,x= .int .i64 k/\k<=22/\g=22-k/\Kin W wq/\∀(j:Nat) (u:ByteArray),j<k->signsL[j]? =some u->yj s i u=false)
 case atStart=>exact⟨0,rfl,Nat.zero_le _,rfl,Kin.refl _,fun j u hj=>by omega⟩
 case round=>
  obtain⟨k,rfl,hk,hg,hkin,hno⟩:=hrel
  have HG:=Lib.hid hg
  have HKW:=Lib.hid hkin
  have HN:=Lib.hid hno
  clear hg hkin hno
  by_cases hlt:k<22
  ·obtain⟨t,ht⟩:∃t,signsL[k]? =some t:=⟨_,List.getElem?_eq_getElem (show k<signsL.length from hlt)⟩
   obtain⟨htm,htm1⟩:=zbQ t (List.mem_of_getElem? ht)
   have HT:=Lib.hid ht
   have hct:wr.cell? ⟨B+1,k,none⟩=some (.string t):=(HKW.out.cell hlt2).trans (HC.out k t ht)
   clear ht
   cases hm:yj s i t with
   |false=>
    have HM:=Lib.hid hm
    by_cases hle:i+t.size<=s.size
    ·have hne:((s.extract i (i+t.size)).toList==t.toList)=false:=by
      unfold yj at hm
      rw[decide_eq_true hle,Bool.true_and] at hm
      exact hm
     have hdd:decide ((i:Int)+t.size<=s.size)=true:=decide_eq_true (by omega)
     clear hm
     go_wp2_with fail
     go_quiet (fail)
     go_wp2_with fail
     go_roundg (22-(k+1))
     case measure=>have:=HG.out;omega
     case rel=>
      refine⟨k+1,by simp,by omega,rfl,HKW.out.drewN _,fun j u hj hu=>?_⟩
      by_cases e:j=k
      ·subst e
       rw[HT.out] at hu
       cases hu
       exact HM.out
      ·exact HN.out j u (by omega) hu
    ·have hdd:decide ((i:Int)+t.size<=s.size)=false:=decide_eq_false (by omega)
     clear hm
     go_wp2_with fail
     go_quiet (fail)
     go_wp2_with fail
     go_roundg (22-(k+1))
     case measure=>have:=HG.out;omega
     case rel=>
      refine⟨k+1,by simp,by omega,rfl,HKW.out.drewN _,fun j u hj hu=>?_⟩
      by_cases e:j=k
      ·subst e
       rw[HT.out] at hu
       cases hu
       exact HM.out
      ·exact HN.out j u (by omega) hu
   |true=>
    have HM:=Lib.hid hm
    have hle:=(za5 hm).1
    have heq:((s.extract i (i+t.size)).toList==t.toList)=true:=by
     unfold yj at hm
     rw[decide_eq_true hle,Bool.true_and] at hm
     exact hm
    have hdd:decide ((i:Int)+t.size<=s.size)=true:=decide_eq_true (by omega)
    have hsg:=zdn hi HT.out hm HN.out
    have hRR:R=⟨2,t,0,i,0,0⟩:=by
     rw[<-HR.out,hsg,if_neg]
     rw[ByteArray.toList_eq]
     intro h
     have h2:t.data.toList.length=t.size:=Array.length_toList
     rw[List.isEmpty_iff.1 h] at h2
     have:(0:Nat)=t.size:=h2
     omega
    have HRR:=Lib.hid hRR
    obtain⟨v0,q0⟩:=HZ.out 0 (by omega)
    obtain⟨v1,q1⟩:=HZ.out 1 (by omega)
    obtain⟨v2,q2⟩:=HZ.out 2 (by omega)
    obtain⟨v3,q3⟩:=HZ.out 3 (by omega)
    have c0:=(HKW.out.cell (World.block_lt_of_cell? W _ q0)).trans q0
    have c1:=(HKW.out.cell (World.block_lt_of_cell? W _ q1)).trans q1
    have c2:=(HKW.out.cell (World.block_lt_of_cell? W _ q2)).trans q2
    have c3:=(HKW.out.cell (World.block_lt_of_cell? W _ q3)).trans q3
    have hfr:=fun j=>(World.frozen?_of_block (a:=⟨B,j,none⟩) (HKW.out.block B (by omega))).trans (HF.out j)
    have f0:=hfr 0
    have f1:=hfr 1
    have f2:=hfr 2
    have f3:=hfr 3
    clear hm hsg hRR q0 q1 q2 q3 hfr
    go_wp2_with fail
    go_quiet (fail)
    go_wp2_with fail
    refine bodyPost_ret (v:=pieceV ⟨2,t,0,i,0,0⟩) (by simp[results,Tryz.f87,pieceV,go_sem,c0,c1,c2,c3];try rfl) rfl ?_
    have hBl:w.heap.size<=B:=by rw[HB.out];exact Nat.le_refl _
    exact⟨congrArg (fun x=>Ending.returned (pieceV x)) HRR.out.symm,((((((HK.out.trans HKW.out).drewN _).setCell hBl _).setCell hBl _).setCell hBl _).setCell hBl _)⟩
  ·obtain rfl:k=22:=by omega
   have hsg:=sign_none hi (fun j u hu=>HN.out j u (List.getElem?_eq_some_iff.1 hu).1 hu)
   have hRR:R=⟨0,⟨#[]⟩,0,0,20,i⟩:=by
    rw[<-HR.out,hsg,if_pos (by rw[ByteArray.toList_eq];rfl)]
   have HRR:=Lib.hid hRR
   obtain⟨v0,q0⟩:=HZ.out 0 (by omega)
   obtain⟨v1,q1⟩:=HZ.out 1 (by omega)
   obtain⟨v2,q2⟩:=HZ.out 2 (by omega)
   obtain⟨v3,q3⟩:=HZ.out 3 (by omega)
   have c0:=(HKW.out.cell (World.block_lt_of_cell? W _ q0)).trans q0
   have c1:=(HKW.out.cell (World.block_lt_of_cell? W _ q1)).trans q1
   have c2:=(HKW.out.cell (World.block_lt_of_cell? W _ q2)).trans q2
   have c3:=(HKW.out.cell (World.block_lt_of_cell? W _ q3)).trans q3
   have hfr:=fun j=>(World.frozen?_of_block (a:=⟨B,j,none⟩) (HKW.out.block B (by omega))).trans (HF.out j)
   have f0:=hfr 0
   have f1:=hfr 1
   have f2:=hfr 2
   have f3:=hfr 3
   clear hsg hRR q0 q1 q2 q3 hfr
   go_wp2_with fail
   refine bodyPost_ret (v:=pieceV ⟨0,⟨#[]⟩,0,0,20,i⟩) (by simp[results,Tryz.f87,pieceV,go_sem,c0,c1,c2,c3];try rfl) rfl ?_
   have hBl:w.heap.size<=B:=by rw[HB.out];exact Nat.le_refl _
   exact⟨congrArg (fun x=>Ending.returned (pieceV x)) HRR.out.symm,(((((HK.out.trans HKW.out).setCell hBl _).setCell hBl _).setCell hBl _).setCell hBl _)⟩
theorem zeU(s:ByteArray)(i:Nat)(w:World)(hi:i<s.size)(hs:s.size<=8796093022207):
 Calls Tryz.prog 87 #[.string s, .int .i64 i] w fun e w'=>e= .returned (pieceV (itemAt s i))/\Kin w w':=by
 unfold itemAt letterAt z8
 rw[dif_pos hi,dif_pos hi]
 cases hl:isLetter (s[i]).toNat with
 |true=>rw[if_pos rfl];exact zaU s i w hi hs hl
 |false=>
  rw[if_neg (by simp)]
  cases hd:isDigit (s[i]).toNat with
  |true=>rw[if_pos rfl];exact zbZ s i w hi hs hl hd
  |false=>rw[if_neg (by simp)];exact zdu s i w hi hs hl hd
theorem uQ{s:ByteArray}{i k:Nat}(hi:i<s.size)(h35:(s[i]).toNat=35)(h:Upto isLine s i k):i<k:=by
 rcases Nat.lt_or_ge i k with h'|h'
 ·exact h'
 ·exfalso
  have e:i=k:=Nat.le_antisymm h.1 h'
  subst e
  have:=h.2.2.2 hi
  simp[isLine,h35] at this
theorem zdm(s:ByteArray):∀f f' i,s.size-i<=f->s.size-i<=f'->skipF s f i=skipF s f' i:=by
 intro f
 induction f with
 |zero=>
  intro f' i h _
  cases f' with
  |zero=>rfl
  |succ f'=>unfold skipF;rw[dif_neg (by omega)]
 |succ f ih=>
  intro f' i h h'
  cases f' with
  |zero=>unfold skipF;rw[dif_neg (by omega)]
  |succ f'=>
   unfold skipF
   by_cases hi:i<s.size
   ·rw[dif_pos hi,dif_pos hi]
    split
    ·exact ih f' (i+1) (by omega) (by omega)
    ·split
     ·rename_i h35
      have:=uQ hi h35 (upto_spec isLine s i (by omega))
      exact ih f' _ (by omega) (by omega)
     ·rfl
   ·rw[dif_neg hi,dif_neg hi]
theorem skipTo_step{s:ByteArray}{i k:Nat}(h:zfQ s i k):(i<k/\k<=s.size/\skipTo s i=skipTo s k)\/(k=i/\skipTo s i=i):=by
 obtain⟨hi,h⟩:=h
 have e:∃f,s.size-i=f+1/\s.size-(i+1)=f:=⟨s.size-(i+1),by omega,rfl⟩
 obtain⟨f,e1,e2⟩:=e
 have hu:skipTo s i=if zV (s[i]).toNat then skipF s f (i+1) else if (s[i]).toNat=35 then skipF s f (upto isLine s i) else i:=by
  unfold skipTo
  rw[e1]
  conv=>lhs;unfold skipF
  rw[dif_pos hi]
 rcases h with⟨hb,rfl⟩|⟨hb,h35,hk⟩|⟨hb,h35,rfl⟩
 ·refine .inl ⟨by omega,by omega,?_⟩
  rw[hu,if_pos hb]
  unfold skipTo
  rw[e2]
 ·have hp:=uQ hi h35 hk
  refine .inl ⟨hp,hk.2.1,?_⟩
  rw[hu,if_neg (by simp[hb]),if_pos h35,<-upto_of hk]
  exact zdm s _ _ k (by omega) (Nat.le_refl _)
 ·refine .inr ⟨rfl,?_⟩
  rw[hu,if_neg (by simp[hb]),if_neg h35]
theorem zal(s:ByteArray):∀f f' i,s.size-i<f->s.size-i<f'->cutF s f i=cutF s f' i:=by
 intro f
 induction f with
 |zero=>intro f' i h;omega
 |succ f ih=>
  intro f' i h h'
  cases f' with
  |zero=>omega
  |succ f'=>
   unfold cutF
   by_cases hi:i<s.size
   ·rw[if_pos hi,if_pos hi]
    by_cases hc:(itemAt s i).code=0
    ·rw[if_pos hc,if_pos hc]
     have hp:=item_pos hi hc
     have:=skipTo_ge s (i+(itemAt s i).text.size)
     rw[ih f' _ (by omega) (by omega)]
    ·rw[if_neg hc,if_neg hc]
   ·rw[if_neg hi,if_neg hi]
def yd(s:ByteArray)(i:Nat):List Item:=cutF s (s.size+1) (skipTo s i)
theorem qX(s:ByteArray):pieces s=yd s 0:=rfl
theorem zbk{s:ByteArray}{i k:Nat}(h:skipTo s i=skipTo s k):yd s i=yd s k:=by unfold yd;rw[h]
theorem cutFrom_end{s:ByteArray}{i:Nat}(h:s.size<=i):yd s i=[]:=by
 unfold yd cutF
 have:=skipTo_ge s i
 rw[if_neg (by omega)]
theorem zch{s:ByteArray}{i:Nat}(hi:i<s.size)(hk:skipTo s i=i)(hc:(itemAt s i).code≠0):yd s i=[itemAt s i]:=by
 unfold yd cutF
 rw[hk,if_pos hi,if_neg hc]
theorem zbl{s:ByteArray}{i:Nat}(hi:i<s.size)(hk:skipTo s i=i)(hc:(itemAt s i).code=0):yd s i=itemAt s i::yd s (i+(itemAt s i).text.size):=by
 unfold yd
 conv=>lhs;unfold cutF
 rw[hk,if_pos hi,if_pos hc]
 have hp:=item_pos hi hc
 have:=skipTo_ge s (i+(itemAt s i).text.size)
 rw[zal s s.size (s.size+1) _ (by omega) (by omega)]
theorem zdP{s:ByteArray}{i:Nat}(hc:(itemAt s i).code≠0):(itemAt s i).place=i:=by
 unfold itemAt at hc⊢
 split at hc
 ·rename_i h
  rw[if_pos h]
  unfold wordAt at hc⊢
  split at hc
  ·rename_i h;rw[if_pos h]
  ·exact absurd rfl hc
 ·rename_i h
  rw[if_neg h]
  split at hc
  ·rename_i h
   rw[if_pos h]
   unfold numAt at hc⊢
   split at hc
   ·rename_i h;rw[if_pos h]
   ·exact absurd rfl hc
  ·rename_i h
   rw[if_neg h]
   split at hc
   ·rename_i h;rw[if_pos h]
   ·exact absurd rfl hc
theorem good_all{l:List Item}(h:∀x∈l,x.code=0):zb l=l/\badOf l=(0,0):=by
 constructor
 ·exact List.filter_eq_self.2 fun x hx=>by simp[h x hx]
 ·unfold badOf
  have:∀(l:List Item) (a:Int×Int),(∀x∈l,x.code=0)->l.foldl (fun acc x=>if x.code=0 then acc else (x.code,x.place)) a=a:=by
   intro l
   induction l with
   |nil=>intro a _;rfl
   |cons x l ih=>
    intro a h
    rw[List.foldl_cons,if_pos (h x (List.mem_cons_self ..))]
    exact ih a fun y hy=>h y (List.mem_cons_of_mem _ hy)
  exact this l _ h
theorem Kin.grownK{w W W':World}{row:Option Nat}(h:Kin w W)(g:W.grownBy W' row)(hr:∀k,row=some k->w.heap.size<=k):Kin w W':=
 ⟨g.os.trans h.os,g.output.trans h.out,Nat.le_trans h.size g.size,fun k hk=>(g.block k (Nat.lt_of_lt_of_le hk h.size) (fun e=>by have:=hr k e.symm;omega)).trans (h.block k hk)⟩
theorem yA{w w':World}{B n:Nat}{e:TypeId}{size:Nat}{v:Value}{xs:List Value}(h:w.ownsRow B e size v n xs)(K:Kin w w'):w'.ownsRow B e size v n xs:=by
 refine⟨h.1,h.2.imp id ?_⟩
 rintro⟨g,cap,cur,h1,h2,h3,h4⟩
 exact⟨g,cap,cur,h1,h2,(K.block g (Array.getElem?_eq_some_iff.1 h3).1).trans h3,h4⟩
def RToks(s:ByteArray)(w:World)(e:Ending)(w':World):Prop:=
 Kin w w'/\if 8192<s.size then e= .returned (.tuple #[.slice none 0 0, .int .i64 21, .int .i64 8192])
  else if (badOf (pieces s)).1≠0 then e= .returned (.tuple #[.slice none 0 0, .int .i64 (badOf (pieces s)).1, .int .i64 (badOf (pieces s)).2])
  else ∃sl,e= .returned (.tuple #[sl, .int .i64 0, .int .i64 0])/\w'.ownsRow w.heap.size 140 4 sl (zb (pieces s)).length (flatToks (zb (pieces s)))
theorem zbU(s:ByteArray)(hs:s.size<=9223372036854775807)(w:World):Calls Tryz.prog 45 #[.string s] w (RToks s w):=by
 unfold RToks
 by_cases hlong:8192<s.size
 ·have hd:decide ((8192:Int)<s.size)=true:=decide_eq_true (by omega)
  go_enter Tryz.func45,Tryz.ntmps45
  go_wp2_with fail
  refine bodyPost_ret (v:= .tuple #[.slice none 0 0, .int .i64 21, .int .i64 8192]) (by simp[results,Tryz.f45,go_sem];try rfl) rfl ?_
  exact⟨Kin.refl _,rfl⟩
 ·have hsz:s.size<=8192:=by omega
  generalize hQ:(fun(e:Ending) (w':World)=>Kin w w'/\if 8192<s.size then e= .returned (.tuple #[.slice none 0 0, .int .i64 21, .int .i64 8192])
   else if (badOf (pieces s)).1≠0 then e= .returned (.tuple #[.slice none 0 0, .int .i64 (badOf (pieces s)).1, .int .i64 (badOf (pieces s)).2])
   else ∃sl,e= .returned (.tuple #[sl, .int .i64 0, .int .i64 0])/\w'.ownsRow w.heap.size 140 4 sl (zb (pieces s)).length (flatToks (zb (pieces s))))=Q
  have HQ1:Hid (∀x w',(badOf (pieces s)).1=x->x≠0->Kin w w'->Q (.returned (.tuple #[.slice none 0 0, .int .i64 x, .int .i64 (badOf (pieces s)).2])) w'):=Lib.hid (fun x w' h1 h2 K=>by
   rw[<-hQ]
   refine⟨K,?_⟩
   rw[if_neg hlong,if_pos (by rw[h1];exact h2),h1])
  have HQ2:Hid (∀sl w',(badOf (pieces s)).1=0->Kin w w'->w'.ownsRow w.heap.size 140 4 sl (zb (pieces s)).length (flatToks (zb (pieces s)))->Q (.returned (.tuple #[sl, .int .i64 0, .int .i64 0])) w'):=Lib.hid (fun sl w' h1 K hown=>by
   rw[<-hQ]
   refine⟨K,?_⟩
   rw[if_neg hlong,if_neg (by rw[h1];simp)]
   exact⟨sl,rfl,hown⟩)
  clear hQ
  obtain⟨ti,hi,hz0,hz1,hz2⟩:=info_parts zcO
  go_enter Tryz.func45,Tryz.ntmps45
  go_wp2_with fail
  go_loopg [5,6] s.size (fun g x y wq=>∃(i:Nat) (ts:List Item),y= .int .i64 i/\i<=s.size/\g=s.size-i/\Kin w wq/\wq.ownsRow w.heap.size 140 4 x ts.length (flatToks ts)/\pieces s=ts++yd s i/\(∀t∈ts,t.code=0)/\ts.length<=i)
  case atStart=>exact⟨0,[],rfl,Nat.zero_le _,rfl,Kin.refl _,World.ownsRow_nil _ _ _ _,rfl,(fun t ht=>by cases ht),Nat.zero_le _⟩
  case round=>
   obtain⟨i,ts,rfl,hile,hg,hkin,hown,hp,hall,hcnt⟩:=hrel
   have HG:=Lib.hid hg
   have HK:=Lib.hid hkin
   have HO:=Lib.hid hown
   have HP:=Lib.hid hp
   have HA:=Lib.hid hall
   clear hg hkin hown hp hall
   by_cases hlt:i<s.size
   ·have HBH:=Lib.hid (zd4 s i · hlt (by omega))
    go_upto_region 7 with(go_at_call 86;with_reducible refine(HBH.out _).mono ?_;rintro e w' ⟨⟨k,hbk,rfl⟩,he⟩;obtain rfl:=he.symm)
    rcases skipTo_step hbk with⟨h1,h2,h3⟩|⟨rfl,h3⟩
    ·clear hbk
     have H3:=Lib.hid h3
     clear h3
     have hd:decide ((i:Int)<k)=true:=decide_eq_true (by omega)
     go_wp2_with fail
     go_roundg (s.size-k)
     case measure=>have:=HG.out;omega
     case rel=>exact⟨k,ts,rfl,h2,rfl,HK.out,HO.out,by rw[HP.out,zbk H3.out],HA.out,by omega⟩
    ·clear hbk
     have H3:=Lib.hid h3
     clear h3
     have hd:decide ((k:Int)<k)=false:=decide_eq_false (by omega)
     have HPC:=Lib.hid (zeU s k · hlt (by omega))
     have hfl:=kn ts
     have HFL:=Lib.hid hfl
     clear hfl
     have htc:∀x:Item,∀u∈tokCells x,u.oneCell'=true:=by
      intro x u hu
      simp[tokCells] at hu
      rcases hu with rfl|rfl|rfl|rfl<;>rfl
     have HTC:=Lib.hid htc
     clear htc
     by_cases hc:(itemAt s k).code=0
     ·have hpos:=item_pos hlt hc
      have HSP:=Lib.hid (zbl hlt H3.out hc)
      have hcd:((itemAt s k).code !=0)=false:=by simp[hc]
      generalize hx:itemAt s k=x at*
      have HCX:=Lib.hid hc
      clear hc
      unfold pieceV at HPC
      go_wp2_with (first|(go_at_call 87;with_reducible refine(HPC.out _).mono ?_;rintro e w1 ⟨rfl,K1⟩;have hz:=K1.size;have hO1:=yA HO.out K1)|(at_builtin;refine wpList_append_own _ rfl (.tmp 34) (.tmp 36) 80 rfl w.heap.size 140 ti _ 4 40 Tryz.underlying80 hi hz0 hz1 hz2 rfl (by decide) _ _ _ rfl ((hO1.alloc _).alloc _) ⟨w1.heap.size+1,0,none⟩ 1 1 (tokCells x) rfl rfl ?c1 (HTC.out x) ?c3 ?c4 ?c5 ?_))
      case c1=>
       intro j u hj
       match j,hj with
       |0,hj=>simp[tokCells] at hj;subst hj;simp[go_sem,Addr.add]
       |1,hj=>simp[tokCells] at hj;subst hj;simp[go_sem,Addr.add]
       |2,hj=>simp[tokCells] at hj;subst hj;simp[go_sem,Addr.add]
       |3,hj=>simp[tokCells] at hj;subst hj;simp[go_sem,Addr.add]
       |j+4,hj=>simp[tokCells] at hj
      case c3=>unfold maxLen;omega
      case c4=>omega
      case c5=>have:=HK.out.size;simp;omega
      intro v' w2 hown' hgrow _
      have hrow:∀b,u5.ownBlock=some b->w.heap.size<=b/\b<wr.heap.size:=fun b hb=>HO.out.lt b hb
      have ct:w2.cell? ⟨w1.heap.size,1,none⟩=some (.string x.text):=(World.cell?_of_block (a:=⟨w1.heap.size,1,none⟩) (hgrow.block w1.heap.size (by simp;omega) (fun h=>by have:=hrow _ h.symm;omega))).trans (by simp[go_sem])
      have KF:Kin w w2:=((((HK.out.trans K1).alloc _).alloc _)).grownK hgrow (fun b hb=>(hrow b hb).1)
      have HKF:=Lib.hid KF
      have HOW:=Lib.hid hown'
      clear hgrow hown' hrow hO1 KF K1
      go_wp2_with fail
      go_roundg (s.size-(k+x.text.size))
      case measure=>have:=HG.out;omega
      case rel=>
       refine⟨k+x.text.size,ts++[x],by simp,hpos.2,rfl,HKF.out,?_,?_,?_,?_⟩
       ·rw[List.length_append,zaf]
        exact HOW.out
       ·rw[HP.out,HSP.out,List.append_assoc]
        rfl
       ·intro t ht
        rcases List.mem_append.1 ht with h|h
        ·exact HA.out t h
        ·rw[List.mem_singleton.1 h];exact HCX.out
       ·rw[List.length_append]
        show ts.length+1<=_
        omega
     ·have hcd:((itemAt s k).code !=0)=true:=by simp[hc]
      have hb:badOf (pieces s)=((itemAt s k).code,(k:Int)):=by
       rw[HP.out,zch hlt H3.out hc,zbr hc,zdP hc]
      have HQ3:Hid (∀w',Kin w w'->Q (.returned (.tuple #[.slice none 0 0, .int .i64 (itemAt s k).code, .int .i64 k])) w'):=Lib.hid (fun w' K=>by
       have:=HQ1.out _ w' (by rw[hb]) hc K
       rw[hb] at this
       exact this)
      unfold pieceV at HPC
      generalize itemAt s k=x at*
      clear hb hc
      go_wp2_with (go_at_call 87;with_reducible refine(HPC.out _).mono ?_;rintro e w1 ⟨rfl,K1⟩)
      refine bodyPost_ret (v:= .tuple #[.slice none 0 0, .int .i64 x.code, .int .i64 k]) (by simp[results,Tryz.f45,go_sem];try rfl) rfl ?_
      exact HQ3.out _ (by first|exact(HK.out.trans K1).alloc _)
   ·obtain rfl:i=s.size:=by omega
    have hpp:pieces s=ts:=by rw[HP.out,cutFrom_end (Nat.le_refl _),List.append_nil]
    obtain⟨g1,g2⟩:=good_all HA.out
    have hfin:Q (.returned (.tuple #[u5, .int .i64 0, .int .i64 0])) wr:=HQ2.out _ wr (by rw[hpp,g2]) HK.out (by rw[hpp,g1];exact HO.out)
    have HFIN:=Lib.hid hfin
    clear hfin hpp g1 g2
    go_wp2_with fail
    refine bodyPost_ret (v:= .tuple #[u5, .int .i64 0, .int .i64 0]) (by simp[results,Tryz.f45,go_sem];try rfl) rfl ?_
    exact HFIN.out
structure RP (C:Ctx) (i:Nat) (b:Int) (w:World):Prop where
 blk:∃bo cap,w.heap[C.r]? =some (.cells #[.slice bo C.l.length cap, .int .i64 i, .int .i64 C.e, .int .i64 b] 93 (0,0))/\(C.l≠[]->bo=some ⟨C.g,0,none⟩)/\C.l.length<=cap
 toks:ToksAt C.l C.g w
 ne:C.l≠[]->C.g≠C.r
 le:i<=C.l.length
 len:C.l.length<=8193
 pos:∀t∈C.l,0<=t.pos
 e0:0<=C.e
theorem zaP{w:World}{r:Nat}{cs:Array Value}{t:TypeId}{f:Nat×Nat}(h:w.heap[r]? =some (.cells cs t f))(o:Nat)(v:Value):(w.setCell ⟨r,o,none⟩ v).heap[r]? =some (.cells (cs.setIfInBounds o v) t f):=by
 have hr:=(Array.getElem?_eq_some_iff.1 h).1
 unfold World.setCell
 simp only
 rw[Array.getElem?_modify]
 simp[h]
theorem RP.lt{C:Ctx}{i:Nat}{b:Int}{w:World}(h:RP C i b w):C.r<w.heap.size:=by
 obtain⟨bo,cap,h1,_⟩:=h.blk
 exact(Array.getElem?_eq_some_iff.1 h1).1
theorem ToksAt.glt{l:List Item}{g:Nat}{w:World}(h:ToksAt l g w)(hne:l≠[]):g<w.heap.size:=by
 cases l with
 |nil=>exact absurd rfl hne
 |cons t l=>exact World.block_lt_of_cell? w ⟨g,0*4,none⟩ (h.kind 0 t rfl)
theorem RP.kept{C:Ctx}{i:Nat}{b:Int}{w w':World}(h:RP C i b w)(hk:∀k,k<w.heap.size->w'.heap[k]? =w.heap[k]?):RP C i b w':=by
 obtain⟨bo,cap,h1,h2,h3⟩:=h.blk
 exact⟨⟨bo,cap,(hk _ h.lt).trans h1,h2,h3⟩,h.toks.of fun hne o=>World.cell?_of_block (a:=⟨C.g,o,none⟩) (hk _ (h.toks.glt hne)),h.ne,h.le,h.len,h.pos,h.e0⟩
theorem RP.kin{C:Ctx}{i:Nat}{b:Int}{w w':World}(h:RP C i b w)(K:Kin w w'):RP C i b w':=h.kept K.block
theorem RP.set{C:Ctx}{i j:Nat}{b b':Int}{w w':World}(h:RP C i b w)(hj:j<=C.l.length)(hg:w.grownBy w' (some C.r))(hb:∀bo cap,w.heap[C.r]? =some (.cells #[.slice bo C.l.length cap, .int .i64 i, .int .i64 C.e, .int .i64 b] 93 (0,0))->w'.heap[C.r]? =some (.cells #[.slice bo C.l.length cap, .int .i64 j, .int .i64 C.e, .int .i64 b'] 93 (0,0))):RP C j b' w':=by
 obtain⟨bo,cap,h1,h2,h3⟩:=h.blk
 exact⟨⟨bo,cap,hb bo cap h1,h2,h3⟩,h.toks.of fun hne o=>World.cell?_of_block (a:=⟨C.g,o,none⟩) (hg.block _ (h.toks.glt hne) (by intro e;exact h.ne hne (Option.some.inj e))),h.ne,hj,h.len,h.pos,h.e0⟩
theorem RP.setAt{C:Ctx}{i j:Nat}{b:Int}{w:World}(h:RP C i b w)(hj:j<=C.l.length):RP C j b (w.setCell ⟨C.r,1,none⟩ (.int .i64 j)):=
 h.set hj (zo w C.r 1 _) fun bo cap hb=>zaP hb 1 _
theorem RP.setBad{C:Ctx}{i:Nat}{b b':Int}{w:World}(h:RP C i b w):RP C i b' (w.setCell ⟨C.r,3,none⟩ (.int .i64 b')):=
 h.set h.le (zo w C.r 3 _) fun bo cap hb=>zaP hb 3 _
theorem RP.cells{C:Ctx}{i:Nat}{b:Int}{w:World}(h:RP C i b w):∃bo cap,(C.l≠[]->bo=some ⟨C.g,0,none⟩)/\C.l.length<=cap/\w.cell? ⟨C.r,0,none⟩=some (.slice bo C.l.length cap)/\w.cell? ⟨C.r,1,none⟩=some (.int .i64 i)/\w.cell? ⟨C.r,2,none⟩=some (.int .i64 C.e)/\w.cell? ⟨C.r,3,none⟩=some (.int .i64 b)/\w.frozen? ⟨C.r,1,none⟩=false/\w.frozen? ⟨C.r,3,none⟩=false:=by
 obtain⟨bo,cap,h1,h2,h3⟩:=h.blk
 refine⟨bo,cap,h2,h3,cell_put h1 rfl,cell_put h1 rfl,cell_put h1 rfl,cell_put h1 rfl,?_,?_⟩<;>(unfold World.frozen?;simp[h1])
theorem RP.drewN{C:Ctx}{i:Nat}{b:Int}{w:World}(h:RP C i b w)(n:Nat):RP C i b (w.drewN n):=h.kept fun _ _=>rfl
theorem yz{C:Ctx}{i:Nat}{b:Int}{w:World}(h:RP C i b w)(j:Nat):0<=placeOf C.l C.e j:=by
 unfold placeOf
 split
 ·rename_i t ht
  exact h.pos t (List.mem_of_getElem? ht)
 ·exact h.e0
theorem rplace_any(C:Ctx)(i:Nat)(b:Int)(w:World)(h:RP C i b w):Calls Tryz.prog 88 #[.pointer (some ⟨C.r,0,none⟩)] w fun x w'=>x= .returned (.int .i64 (placeOf C.l C.e i))/\∃n,w'=w.drewN n:=by
 obtain⟨bo,cap,hb,hcap,h0,h1,h2,h3,hf,hf2⟩:=h.cells
 have ht:=h.toks
 have hlen:=h.len
 have hle:=h.le
 obtain⟨l,e,te,pe,r,g⟩:=C
 simp only at h0 h1 h2 h3 hb hcap ht hf hle hlen⊢
 clear h
 by_cases hi:i<l.length
 ·obtain⟨t,hx⟩:∃t,l[i]? =some t:=⟨_,List.getElem?_eq_getElem hi⟩
  obtain rfl:=hb (by rintro rfl;simp at hi)
  have hp:=ht.pos i t hx
  have hpl:placeOf l e i=t.pos:=by unfold placeOf;rw[hx]
  rw[hpl]
  clear hpl ht hb hx
  go_enter Tryz.func88,Tryz.ntmps88
  go_wp2_with fail
  go_quiet (fail)
  go_wp2_with fail
  go_quiet (fail)
  go_wp2
  go_ret
  exact⟨rfl,_,World.drewN_drewN _ _ _⟩
 ·have hpl:placeOf l e i=e:=by unfold placeOf;rw[List.getElem?_eq_none (by omega)]
  rw[hpl]
  clear hpl ht hb
  go_enter Tryz.func88,Tryz.ntmps88
  go_wp2_with fail
  go_quiet (fail)
  go_wp2
  go_ret
  exact⟨rfl,_,rfl⟩
def bad1(C:Ctx)(i:Nat)(b:Int):Int:=if b<0 then placeOf C.l C.e i else b
theorem xH(C:Ctx)(i:Nat)(b:Int)(w:World)(h:RP C i b w):Calls Tryz.prog 92 #[.pointer (some ⟨C.r,0,none⟩)] w fun x w'=>x= .returned (.tuple #[])/\RP C i (bad1 C i b) w'/\Grew C w w':=by
 obtain⟨bo,cap,hb,hcap,h0,h1,h2,h3,hf,hf2⟩:=h.cells
 have HP:=Lib.hid (rplace_any C i b w h)
 have HN:=Lib.hid (fun n=>(h.drewN n).setBad (b':=placeOf C.l C.e i))
 have H:=Lib.hid h
 have hrl:=h.lt
 clear h hb h0 h1 h2
 unfold bad1
 by_cases hb0:b<0
 ·rw[if_pos hb0]
  have hd:decide (b<0)=true:=decide_eq_true hb0
  go_enter Tryz.func92,Tryz.ntmps92
  go_wp2_with (go_at_call 88;with_reducible refine HP.out.mono ?_;rintro e w' ⟨rfl,n,rfl⟩)
  have h:=zo (w.drewN n) C.r 3 (.int .i64 (placeOf C.l C.e i))
  exact⟨rfl, .tuple #[],by simp[results,Tryz.f92],rfl,HN.out n,⟨h.os,h.tape,h.output,h.size,h.block⟩⟩
 ·rw[if_neg hb0]
  have hd:decide (b<0)=false:=decide_eq_false hb0
  go_enter Tryz.func92,Tryz.ntmps92
  go_wp2_with fail
  exact⟨rfl, .tuple #[],by simp[results,Tryz.f92],rfl,H.out,Grew.drewN w 0⟩
def isP(C:Ctx)(i:Nat)(b:Int)(s:ByteArray):Bool:=decide (b<0)&&comesB C.l i s
theorem gv(C:Ctx)(i:Nat)(b:Int)(s:ByteArray)(w:World)(h:RP C i b w):Calls Tryz.prog 46 #[.pointer (some ⟨C.r,0,none⟩), .string s] w fun x w'=>x= .returned (.bool (isP C i b s))/\∃n,w'=w.drewN n:=by
 obtain⟨bo,cap,hb,hcap,h0,h1,h2,h3,hf,hf2⟩:=h.cells
 have ht:=h.toks
 have hlen:=h.len
 have hle:=h.le
 unfold isP
 obtain⟨l,e,te,pe,r,g⟩:=C
 simp only at h0 h1 h2 h3 hb hcap ht hf hle hlen⊢
 clear h
 by_cases hb0:b<0
 ·have hd:decide (b<0)=true:=decide_eq_true hb0
  rw[hd,Bool.true_and]
  by_cases hi:i<l.length
  ·obtain⟨t,hx⟩:∃t,l[i]? =some t:=⟨_,List.getElem?_eq_getElem hi⟩
   obtain rfl:=hb (by rintro rfl;simp at hi)
   have hp:=ht.kind i t hx
   have hq:=ht.text i t hx
   have hpl:comesB l i s=(decide (t.kind≠1)&&(t.text.toList==s.toList)):=by unfold comesB;rw[hx]
   rw[hpl]
   clear hpl ht hb hx
   by_cases hk:t.kind=1
   ·rw[hk] at hp⊢
    clear hk
    go_enter Tryz.func46,Tryz.ntmps46
    go_wp2_with fail
    go_quiet (fail)
    go_wp2
    go_ret
    exact⟨rfl,_,rfl⟩
   ·have hk1:(t.kind==1)=false:=by simp[hk]
    have hk2:(t.kind !=1)=true:=by simp[hk]
    have hk3:(decide (t.kind≠1)&&(t.text.toList==s.toList))=(t.text.toList==s.toList):=by simp[hk]
    rw[hk3]
    clear hk hk3
    go_enter Tryz.func46,Tryz.ntmps46
    go_wp2_with fail
    go_quiet (fail)
    go_wp2
    go_ret
    exact⟨rfl,_,rfl⟩
  ·have hpl:comesB l i s=false:=by unfold comesB;rw[List.getElem?_eq_none (by omega)]
   have hdd:decide ((i:Int)<(l.length:Int))=false:=by simp;omega
   rw[hpl]
   clear hpl ht hb
   go_enter Tryz.func46,Tryz.ntmps46
   go_wp2_with fail
   go_quiet (fail)
   go_wp2
   go_ret
   exact⟨rfl,_,rfl⟩
 ·have hd:decide (b<0)=false:=decide_eq_false hb0
  rw[hd,Bool.false_and]
  clear ht hb
  go_enter Tryz.func46,Tryz.ntmps46
  go_wp2_with fail
  go_quiet (fail)
  go_wp2
  go_ret
  exact⟨rfl,_,rfl⟩
def zi(C:Ctx)(i:Nat)(b:Int)(s:ByteArray):Nat:=if isP C i b s then i+1 else i
def zn(C:Ctx)(i:Nat)(b:Int)(s:ByteArray):Int:=if isP C i b s then b else bad1 C i b
theorem isP_lt{C:Ctx}{i:Nat}{b:Int}{s:ByteArray}(h:isP C i b s=true):i<C.l.length/\b<0:=by
 unfold isP at h
 rw[Bool.and_eq_true,decide_eq_true_eq] at h
 exact⟨comes_lt h.2,h.1⟩
theorem grew_next'{C:Ctx}(w:World)(n:Nat)(o:Nat)(v:Value):Grew C w ((w.drewN n).setCell ⟨C.r,o,none⟩ v):=by
 have h:=zo (w.drewN n) C.r o v
 exact⟨h.os,h.tape,h.output,h.size,h.block⟩
theorem zB(C:Ctx)(i:Nat)(b:Int)(s:ByteArray)(w:World)(h:RP C i b w):Calls Tryz.prog 90 #[.pointer (some ⟨C.r,0,none⟩), .string s] w fun x w'=>x= .returned (.tuple #[])/\RP C (zi C i b s) (zn C i b s) w'/\Grew C w w':=by
 have HI:=Lib.hid (gv C i b s w h)
 unfold zi zn
 cases hi:isP C i b s with
 |true=>
  rw[hi] at HI
  obtain⟨hlt,hb⟩:=isP_lt hi
  obtain⟨bo,cap,_,_,_,h1,_,_,hf,_⟩:=h.cells
  have hlen:=h.len
  have hrl:=h.lt
  have HN:=Lib.hid (fun n=>(h.drewN n).setAt (j:=i+1) hlt)
  clear h
  go_enter Tryz.func90,Tryz.ntmps90
  go_wp2_with (go_at_call 46;with_reducible refine HI.out.mono ?_;rintro e w' ⟨rfl,n,rfl⟩)
  exact⟨rfl, .tuple #[],by simp[results,Tryz.f90],rfl,HN.out n,grew_next' _ _ _ _⟩
 |false=>
  rw[hi] at HI
  have HF:=Lib.hid (fun n=>xH C i b _ (h.drewN n))
  clear h
  go_enter Tryz.func90,Tryz.ntmps90
  go_wp2_with (first|(go_at_call 46;with_reducible refine HI.out.mono ?_;rintro e w' ⟨rfl,n,rfl⟩)|(go_at_call 92;with_reducible refine(HF.out n).mono ?_;rintro e w' ⟨rfl,hR,hG⟩))
  exact⟨rfl, .tuple #[],by simp[results,Tryz.f90],rfl,hR,grown_trans (Grew.drewN w n) hG⟩
def namedP(C:Ctx)(i:Nat)(b:Int):Bool:=decide (b<0)&&namedB C.l i
theorem Kin.drewL{w w':World}(n:Nat)(K:Kin (w.drewN n) w'):Kin w w':=⟨K.os,K.out,K.size,K.block⟩
theorem qn(C:Ctx)(i:Nat)(b:Int)(w:World)(h:RP C i b w):Calls Tryz.prog 129 #[.pointer (some ⟨C.r,0,none⟩)] w fun x w'=>x= .returned (.bool (namedP C i b))/\Kin w w':=by
 obtain⟨bo,cap,hb,hcap,h0,h1,h2,h3,hf,hf2⟩:=h.cells
 have ht:=h.toks
 have hlen:=h.len
 have hle:=h.le
 unfold namedP
 obtain⟨l,e,te,pe,r,g⟩:=C
 simp only at h0 h1 h2 h3 hb hcap ht hf hle hlen⊢
 clear h
 by_cases hb0:b<0
 ·have hd:decide (b<0)=true:=decide_eq_true hb0
  rw[hd,Bool.true_and]
  by_cases hi:i<l.length
  ·obtain⟨t,hx⟩:∃t,l[i]? =some t:=⟨_,List.getElem?_eq_getElem hi⟩
   obtain rfl:=hb (by rintro rfl;simp at hi)
   have hp:=ht.kind i t hx
   have hq:=ht.text i t hx
   have hpl:namedB l i=(decide (t.kind=0)&&!zd t.text):=by unfold namedB;rw[hx]
   rw[hpl]
   clear hpl ht hb hx
   by_cases hk:t.kind=0
   ·rw[hk] at hp⊢
    clear hk
    go_enter Tryz.func129,Tryz.ntmps129
    go_wp2_with fail
    go_still_tail 43,(by kernel_rfl)
    change wpList _ _ _ _ _ w.drew
    generalize hw2:w.drew=w2
    go_wp2_with (go_at_call 134;with_reducible refine(zcb _ _).mono ?_;rintro e w' ⟨rfl,K1⟩)
    go_ret
    subst hw2
    exact⟨rfl,K1.drewL 1⟩
   ·have hk1:(t.kind==0)=false:=by simp[hk]
    have hk2:(t.kind !=0)=true:=by simp[hk]
    have hk3:(decide (t.kind=0)&&!zd t.text)=false:=by simp[hk]
    rw[hk3]
    clear hk hk3
    go_enter Tryz.func129,Tryz.ntmps129
    go_wp2_with fail
    go_quiet (fail)
    go_wp2
    go_ret
    exact⟨rfl,(Kin.refl w).drewN _⟩
  ·have hpl:namedB l i=false:=by unfold namedB;rw[List.getElem?_eq_none (by omega)]
   have hdd:decide ((i:Int)<(l.length:Int))=false:=by simp;omega
   rw[hpl]
   clear hpl ht hb
   go_enter Tryz.func129,Tryz.ntmps129
   go_wp2_with fail
   go_quiet (fail)
   go_wp2
   go_ret
   exact⟨rfl,(Kin.refl w).drewN _⟩
 ·have hd:decide (b<0)=false:=decide_eq_false hb0
  rw[hd,Bool.false_and]
  clear ht hb
  go_enter Tryz.func129,Tryz.ntmps129
  go_wp2_with fail
  go_quiet (fail)
  go_wp2
  go_ret
  exact⟨rfl,(Kin.refl w).drewN _⟩
def nameJ(C:Ctx)(i:Nat)(b:Int):Nat:=if namedP C i b then i+1 else i
def zE(C:Ctx)(i:Nat)(b:Int):Int:=if namedP C i b then b else bad1 C i b
def zX(C:Ctx)(i:Nat)(b:Int):ByteArray:=if namedP C i b then textAt C.l i else ⟨#[]⟩
structure Gr (r:Nat) (w w':World):Prop where
 os:w'.os=w.os
 out:w'.output=w.output
 size:w.heap.size<=w'.heap.size
 block:∀k,k<w.heap.size->k≠r->w'.heap[k]? =w.heap[k]?
theorem Gr.refl(r:Nat)(w:World):Gr r w w:=⟨rfl,rfl,Nat.le_refl _,fun _ _ _=>rfl⟩
theorem Gr.trans{r:Nat}{a b c:World}(h:Gr r a b)(k:Gr r b c):Gr r a c:=⟨k.os.trans h.os,k.out.trans h.out,Nat.le_trans h.size k.size,fun j hj hr=>(k.block j (Nat.lt_of_lt_of_le hj h.size) hr).trans (h.block j hj hr)⟩
theorem Gr.of_kin{r:Nat}{w w':World}(K:Kin w w'):Gr r w w':=⟨K.os,K.out,K.size,fun k hk _=>K.block k hk⟩
theorem Gr.of_grew{C:Ctx}{w w':World}(h:Grew C w w'):Gr C.r w w':=⟨h.os,h.output,h.size,fun k hk hr=>h.block k hk (by intro e;exact hr (Option.some.inj e))⟩
theorem Gr.owns{r:Nat}{w w':World}{B n:Nat}{e:TypeId}{size:Nat}{v:Value}{xs:List Value}(G:Gr r w w')(h:w.ownsRow B e size v n xs)(hr:r<B):w'.ownsRow B e size v n xs:=by
 refine⟨h.1,h.2.imp id ?_⟩
 rintro⟨g,cap,cur,h1,h2,h3,h4⟩
 exact⟨g,cap,cur,h1,h2,(G.block g (Array.getElem?_eq_some_iff.1 h3).1 (by omega)).trans h3,h4⟩
theorem Gr.setCell{r:Nat}{w w':World}(h:Gr r w w')(o:Nat)(v:Value):Gr r w (w'.setCell ⟨r,o,none⟩ v):=by
 have g:=zo w' r o v
 exact h.trans ⟨g.os,g.output,g.size,fun k hk hr=>g.block k hk (by intro e;exact hr (Option.some.inj e))⟩
theorem Gr.drewN{r:Nat}{w w':World}(h:Gr r w w')(n:Nat):Gr r w (w'.drewN n):=⟨h.os,h.out,h.size,h.block⟩
theorem Gr.alloc{r:Nat}{w w':World}(h:Gr r w w')(o:Obj):Gr r w (w'.alloc o):=h.trans (.of_kin ((Kin.refl w').alloc o))
theorem xK(C:Ctx)(i:Nat)(b:Int)(w:World)(h:RP C i b w):Calls Tryz.prog 89 #[.pointer (some ⟨C.r,0,none⟩)] w fun x w'=>x= .returned (.string (zX C i b))/\RP C (nameJ C i b) (zE C i b) w'/\Gr C.r w w':=by
 have HI:=Lib.hid (qn C i b w h)
 unfold zX nameJ zE
 cases hi:namedP C i b with
 |true=>
  rw[hi] at HI
  have hnm:namedB C.l i=true:=by unfold namedP at hi;rw[Bool.and_eq_true] at hi;exact hi.2
  have hlt:=named_lt hnm
  obtain⟨t,ht⟩:∃t,C.l[i]? =some t:=⟨_,List.getElem?_eq_getElem hlt⟩
  have e:textAt C.l i=t.text:=by unfold textAt;rw[ht]
  have hne:C.l≠[]:=by rintro e;rw[e] at hlt;simp at hlt
  have HA:Hid (∀w1,Kin w w1->∃cap,C.l.length<=cap/\w1.cell? ⟨C.r,0,none⟩=some (.slice (some ⟨C.g,0,none⟩) C.l.length cap)/\w1.cell? ⟨C.r,1,none⟩=some (.int .i64 i)/\w1.frozen? ⟨C.r,1,none⟩=false/\w1.cell? ⟨C.g,i*4+1,none⟩=some (.string t.text)):=Lib.hid (fun w1 K=>by
   have h':=h.kin K
   obtain⟨bo,cap,hb,hcap,h0,h1,_,_,hf,_⟩:=h'.cells
   obtain rfl:=hb hne
   exact⟨cap,hcap,h0,h1,hf,h'.toks.text i t ht⟩)
  have HN:Hid (∀w1,Kin w w1->RP C (i+1) b (w1.setCell ⟨C.r,1,none⟩ (.int .i64 (i+1:Nat)))):=Lib.hid (fun w1 K=>(h.kin K).setAt hlt)
  have hg:¬C.r=C.g:=fun e=>h.ne hne e.symm
  have hl:=h.len
  simp only[if_true]
  rw[e]
  clear h ht e hi hnm
  go_enter Tryz.func89,Tryz.ntmps89
  go_wp2_with (go_at_call 129;with_reducible refine HI.out.mono ?_;rintro e w1 ⟨rfl,K1⟩;obtain⟨cap,hcap,q0,q1,qf,qt⟩:=HA.out w1 K1)
  go_quiet (fail)
  go_wp2
  go_ret
  exact⟨rfl,(HN.out w1 K1).drewN _,((Gr.of_kin K1).setCell _ _).drewN _⟩
 |false=>
  rw[hi] at HI
  have HF:Hid (∀w1,Kin w w1->Calls Tryz.prog 92 #[.pointer (some ⟨C.r,0,none⟩)] w1 fun x w'=>x= .returned (.tuple #[])/\RP C i (bad1 C i b) w'/\Grew C w1 w'):=Lib.hid (fun w1 K=>xH C i b w1 (h.kin K))
  clear h
  simp only[if_neg (show ¬false=true by simp)]
  go_enter Tryz.func89,Tryz.ntmps89
  go_wp2_with (first|(go_at_call 129;with_reducible refine HI.out.mono ?_;rintro e w1 ⟨rfl,K1⟩)|(go_at_call 92;with_reducible refine(HF.out w1 K1).mono ?_;rintro e w' ⟨rfl,hR,hG⟩))
  go_ret
  exact⟨rfl,hR,(Gr.of_kin K1).trans (.of_grew hG)⟩
def deepL(l:List Nd):List Nd:=l.map fun n=>{n with depth:=n.depth+1}
theorem xC(a b:List Nd):ndCells (a++b)=ndCells a++ndCells b:=by simp[ndCells]
theorem zd0(l:List Nd)(hlen:l.length<=100000)(hdep:∀n∈l,0<=n.depth/\n.depth<=200000)(v:Value)(w:World)(hv:zA w v l):
 Calls Tryz.prog 130 #[v] w fun e w'=>∃v',e= .returned v'/\(l=[]->v'= .slice none 0 0)/\w'.ownsRow w.heap.size 50 6 v' l.length (ndCells (deepL l))/\Kin w w':=by
 obtain⟨ti,hi,hz0,hz1,hz2⟩:=info_parts vL
 have HN:=Lib.hid hv
 have HD:=Lib.hid hdep
 obtain⟨b,cap,rfl,hcap,hne⟩:=hv
 clear hne hdep
 go_enter Tryz.func130,Tryz.ntmps130
 go_wp2_with fail
 go_loopg [3,4] l.length (fun gg x y wr=>∃k:Nat,y= .int .i64 k/\k<=l.length/\gg=l.length-k/\Kin w wr/\wr.ownsRow w.heap.size 50 6 x (l.take k).length (ndCells (deepL (l.take k)))/\(k=0->x= .slice none 0 0))
 case atStart=>exact⟨0,rfl,Nat.zero_le _,rfl,Kin.refl _,World.ownsRow_nil _ _ _ _,fun _=>rfl⟩
 case round=>
  obtain⟨k,rfl,hk,hgg,hK,hO,h0⟩:=hrel
  have HG:=Lib.hid hgg
  have HK:=Lib.hid hK
  have HO:=Lib.hid hO
  have H0:=Lib.hid h0
  clear hgg hK hO h0
  by_cases hlt:k<l.length
  ·obtain⟨n,hn⟩:∃n,l[k]? =some n:=⟨_,List.getElem?_eq_getElem hlt⟩
   obtain⟨g,off,rfl,hcell⟩:=HN.out.at (by rintro rfl;simp at hlt)
   have cells:∀(x:Nat) (c:Value),n.cells[x]? =some c->wr.cell? ⟨g,off+k*6+x,none⟩=some c:=fun x c hx=>by
    have:=hcell k _ hn x c hx
    exact(HK.out.cell (World.block_lt_of_cell? w _ this)).trans this
   have r0:=cells 0 _ rfl
   have r1:=cells 1 _ rfl
   have r2:=cells 2 _ rfl
   have r3:=cells 3 _ rfl
   have r4:=cells 4 _ rfl
   have r5:=cells 5 _ rfl
   rw[Nat.add_zero] at r0
   have hdn:=HD.out n (List.mem_of_getElem? hn)
   have hov:¬9223372036854775807<n.depth+1:=by omega
   have htk:(l.take k).length=k:=by rw[List.length_take];omega
   have HNN:=Lib.hid hn
   have hz:=HK.out.size
   clear cells hcell hn
   go_wp2_with (at_builtin;refine wpList_append_own _ rfl (.tmp 20) (.tmp 22) 25 rfl w.heap.size 50 ti _ 6 56 Tryz.underlying25 hi hz0 hz1 hz2 rfl (by decide) _ _ _ rfl ((HO.out.alloc _).alloc _) ⟨wr.heap.size+1,0,none⟩ 1 1 (Nd.cells {n with depth:=n.depth+1}) rfl rfl (by simpa using zhz (wr.alloc _) {n with depth:=n.depth+1}) (zbn _) (by unfold maxLen;omega) (by omega) (by simp;omega) ?_;intro v1 w1 hown1 hgrow1 _)
   have K1:Kin w w1:=((HK.out.alloc _).alloc _).grownK hgrow1 (fun b hb=>(HO.out.lt b hb).1)
   have HK1:=Lib.hid K1
   have HO1:=Lib.hid hown1
   clear hown1 hgrow1 K1
   go_wp2_with fail
   go_roundg (l.length-(k+1))
   case measure=>have:=HG.out;omega
   case rel=>
    have e:l.take (k+1)=l.take k++[n]:=by rw[List.take_add_one,HNN.out];rfl
    refine⟨k+1,by simp,by omega,rfl,HK1.out,?_,fun h=>by omega⟩
    rw[e]
    have:=HO1.out
    simpa [deepL,ndCells] using this
  ·obtain rfl:k=l.length:=by omega
   go_wp2_with fail
   go_ret
   have h:=HO.out
   rw[List.take_length] at h
   exact⟨_,rfl,fun hl=>H0.out (by rw[hl];rfl),h,HK.out⟩
def topN(n:Nd):Nd:={n with depth:=1}
def xg(vs:List (Value×List Nd)):List Nd:=vs.flatMap fun x=>deepL x.2
def nodeL(n:Nd)(vs:List (Value×List Nd)):List Nd:=topN n::xg vs
theorem xf(l:List Nd):(deepL l).length=l.length:=List.length_map _
theorem qh(l:List Nd):∀u∈ndCells l,u.oneCell'=true:=by
 intro u hu
 simp only[ndCells,List.mem_flatMap] at hu
 obtain⟨n,_,hn⟩:=hu
 exact zbn n u hn
def kP(w:World)(hb:Value)(vs:List (Value×List Nd)):Prop:=∃bo cap,hb= .slice bo vs.length cap/\(vs≠[]->∃h,bo=some ⟨h,0,none⟩/\vs.length<=cap/\∀(j:Nat) x,vs[j]? =some x->w.cell? ⟨h,j,none⟩=some x.1)
theorem zgU(n:Nd)(vs:List (Value×List Nd))(hvl:vs.length<=3)(hb:Value)(w:World)(hheld:kP w hb vs)(hN:∀x∈vs,zA w x.1 x.2)(hlen:∀x∈vs,x.2.length<=20000)(hdep:∀x∈vs,∀m∈x.2,0<=m.depth/\m.depth<=200000):
 Calls Tryz.prog 91 #[.agg #[.int .i64 n.depth, .int .i64 n.kind, .string n.name, .int .i64 n.num, .int .i64 n.op, .int .i64 n.at_],hb] w fun e w'=>∃v,e= .returned v/\w'.ownsRow w.heap.size 50 6 v (nodeL n vs).length (ndCells (nodeL n vs))/\Kin w w':=by
 obtain⟨ti,hi,hz0,hz1,hz2⟩:=info_parts vL
 obtain⟨bo,cap,rfl,hcell⟩:=hheld
 have HC:=Lib.hid hcell
 have HN:=Lib.hid hN
 have HL:=Lib.hid hlen
 have HD:=Lib.hid hdep
 clear hcell hN hlen hdep
 go_enter Tryz.func91,Tryz.ntmps91
 go_wp2_with fail
 have HO0:Hid (((w.alloc (.cells #[.int .i64 1, .int .i64 n.kind, .string n.name, .int .i64 n.num, .int .i64 n.op, .int .i64 n.at_] 50)).alloc (.cells #[.int .i64 1, .int .i64 n.kind, .string n.name, .int .i64 n.num, .int .i64 n.op, .int .i64 n.at_] 50)).ownsRow w.heap.size 50 6 (.slice (some ⟨w.heap.size+1,0,none⟩) 1 1) 1 (topN n).cells):=Lib.hid (by
  have:=World.ownsRow_lit (base:=w.heap.size) (e:=50) (size:=6) (w.alloc (.cells #[.int .i64 1, .int .i64 n.kind, .string n.name, .int .i64 n.num, .int .i64 n.op, .int .i64 n.at_] 50)) #[.int .i64 1, .int .i64 n.kind, .string n.name, .int .i64 n.num, .int .i64 n.op, .int .i64 n.at_] 1 (by simp) (by decide) rfl
  have e:(topN n).cells=[.int .i64 1, .int .i64 n.kind, .string n.name, .int .i64 n.num, .int .i64 n.op, .int .i64 n.at_]:=rfl
  rw[e]
  simpa using this)
 have HK0:Hid (Kin w ((w.alloc (.cells #[.int .i64 1, .int .i64 n.kind, .string n.name, .int .i64 n.num, .int .i64 n.op, .int .i64 n.at_] 50)).alloc (.cells #[.int .i64 1, .int .i64 n.kind, .string n.name, .int .i64 n.num, .int .i64 n.op, .int .i64 n.at_] 50))):=Lib.hid (((Kin.refl w).alloc _).alloc _)
 go_loopg [5,6] vs.length (fun gg x y wr=>∃k:Nat,y= .int .i64 k/\k<=vs.length/\gg=vs.length-k/\Kin w wr/\wr.ownsRow w.heap.size 50 6 x (nodeL n (vs.take k)).length (ndCells (nodeL n (vs.take k)))/\(nodeL n (vs.take k)).length<=1+20000*k)
 case atStart=>
  refine⟨0,rfl,Nat.zero_le _,rfl,HK0.out,?_,by simp[nodeL,xg]⟩
  simpa [nodeL,xg,ndCells,topN] using HO0.out
 case round=>
  obtain⟨k,rfl,hk,hgg,hK,hO,hcnt⟩:=hrel
  have HG:=Lib.hid hgg
  have HK:=Lib.hid hK
  have HO:=Lib.hid hO
  clear hgg hK hO
  by_cases hlt:k<vs.length
  ·obtain⟨⟨xv,xl⟩,hx⟩:∃x,vs[k]? =some x:=⟨_,List.getElem?_eq_getElem hlt⟩
   have hxm:=List.mem_of_getElem? hx
   obtain⟨h,rfl,hcap,hcl⟩:=HC.out (by rintro rfl;simp at hlt)
   have hc0:=hcl k _ hx
   have hc1:wr.cell? ⟨h,k,none⟩=some xv:=(HK.out.cell (World.block_lt_of_cell? w _ hc0)).trans hc0
   have hxl:=HL.out _ hxm
   have HDP:=Lib.hid (zd0 xl (by simp only at hxl;omega) (HD.out _ hxm) xv wr ((HN.out _ hxm).kin HK.out))
   have HX:=Lib.hid hx
   have e:vs.take (k+1)=vs.take k++[(xv,xl)]:=by rw[List.take_add_one,hx];rfl
   have e2:nodeL n (vs.take (k+1))=nodeL n (vs.take k)++deepL xl:=by rw[e];simp[nodeL,xg]
   have HE:=Lib.hid e2
   have hz:=HK.out.size
   simp only at hxl
   clear hcl hc0 hx hxm e e2
   have hnl:=zU (nodeL n (vs.take k))
   by_cases hxe:xl=[]
   ·subst hxe
    go_wp2_with (first|(go_at_call 130;with_reducible refine HDP.out.mono ?_;rintro e w1 ⟨v1,rfl,hnil,hown1,K1⟩;obtain rfl:=hnil rfl;have hO1:=yA HO.out K1)|(at_builtin;refine wpList_append_own_none rfl (.tmp 16) (.tmp 21) 25 rfl w.heap.size 50 ti 6 Tryz.underlying25 hi _ _ _ rfl hO1 rfl ?_))
    go_roundg (vs.length-(k+1))
    case measure=>have:=HG.out;omega
    case rel=>
     refine⟨k+1,by simp,by omega,rfl,HK.out.trans K1,?_,?_⟩
     ·rw[HE.out]
      simpa [deepL] using hO1
     ·rw[HE.out];simp[deepL];omega
   ·have hpos:0<xl.length:=by cases xl with
     |nil=>exact absurd rfl hxe
     |cons a l=>simp
    go_wp2_with (first|(go_at_call 130;with_reducible refine HDP.out.mono ?_;rintro e w1 ⟨v1,rfl,_,hown1,K1⟩;obtain⟨g1,cap1,rfl,hg1⟩:=hown1.form hpos;have hO1:=yA HO.out K1)|(at_builtin;refine wpList_append_own _ rfl (.tmp 16) (.tmp 21) 25 rfl w.heap.size 50 ti _ 6 56 Tryz.underlying25 hi hz0 hz1 hz2 rfl (by decide) _ _ _ rfl hO1 ⟨g1,0,none⟩ xl.length cap1 (ndCells (deepL xl)) rfl (by rw[zU,xf]) (hown1.cells rfl) (qh _) (by unfold maxLen;omega) (by omega) (Nat.le_trans hz K1.size) ?_;intro v2 w2 hown2 hgrow2 _))
    go_roundg (vs.length-(k+1))
    case measure=>have:=HG.out;omega
    case rel=>
     refine⟨k+1,by simp,by omega,rfl,(HK.out.trans K1).grownK hgrow2 (fun b hb=>(hO1.lt b hb).1),?_,?_⟩
     ·rw[HE.out,List.length_append,xf,xC]
      exact hown2
     ·rw[HE.out,List.length_append,xf];omega
  ·obtain rfl:k=vs.length:=by omega
   go_wp2_with fail
   go_ret
   have h:=HO.out
   rw[List.take_length] at h
   exact⟨_,rfl,h,HK.out⟩
def opTexts(k:Nat):List ByteArray:=(opsOf k).map fun p=>⟨p.1.toArray⟩
def js(k:Nat):List Int:=(opsOf k).map (·.2)
structure TabAt (w:World) (h:Nat) (rows:Nat->List Value):Prop where
 row:∀k,k<5->∃g,w.cell? ⟨h,k,none⟩=some (.slice (some ⟨g,0,none⟩) (rows k).length (rows k).length)/\∀(j:Nat) (u:Value),(rows k)[j]? =some u->w.cell? ⟨g,j,none⟩=some u
theorem TabAt.kin{w w':World}{h:Nat}{rows:Nat->List Value}(t:TabAt w h rows)(K:Kin w w'):TabAt w' h rows:=⟨fun k hk=>by
 obtain⟨g,h1,h2⟩:=t.row k hk
 exact⟨g,(K.cell (World.block_lt_of_cell? w _ h1)).trans h1,fun j u hu=>(K.cell (World.block_lt_of_cell? w _ (h2 j u hu))).trans (h2 j u hu)⟩⟩
def fiveRows(w:World)(te ts:TypeId)(rows:Nat->List Value):World:=
 ((((((w.alloc (.cells (rows 0).toArray te)).alloc (.cells (rows 1).toArray te)).alloc (.cells (rows 2).toArray te)).alloc (.cells (rows 3).toArray te)).alloc (.cells (rows 4).toArray te)).alloc
   (.cells #[.slice (some ⟨w.heap.size,0,none⟩) (rows 0).length (rows 0).length, .slice (some ⟨w.heap.size+1,0,none⟩) (rows 1).length (rows 1).length, .slice (some ⟨w.heap.size+2,0,none⟩) (rows 2).length (rows 2).length, .slice (some ⟨w.heap.size+3,0,none⟩) (rows 3).length (rows 3).length, .slice (some ⟨w.heap.size+4,0,none⟩) (rows 4).length (rows 4).length] ts))
theorem zbg(w:World)(te ts:TypeId)(rows:Nat->List Value):Kin w (fiveRows w te ts rows):=((((((Kin.refl w).alloc _).alloc _).alloc _).alloc _).alloc _).alloc _
theorem zbf(w:World)(te ts:TypeId)(rows:Nat->List Value):TabAt (fiveRows w te ts rows) (w.heap.size+5) rows:=by
 have top:∀k x,(#[.slice (some ⟨w.heap.size,0,none⟩) (rows 0).length (rows 0).length, .slice (some ⟨w.heap.size+1,0,none⟩) (rows 1).length (rows 1).length, .slice (some ⟨w.heap.size+2,0,none⟩) (rows 2).length (rows 2).length, .slice (some ⟨w.heap.size+3,0,none⟩) (rows 3).length (rows 3).length, .slice (some ⟨w.heap.size+4,0,none⟩) (rows 4).length (rows 4).length]:Array Value)[k]? =some x->(fiveRows w te ts rows).cell? ⟨w.heap.size+5,k,none⟩=some x:=fun k x h=>by
  unfold fiveRows
  rw[World.cell?_alloc_at _ _ _ _ (by simp)]
  exact h
 refine⟨fun k hk=>⟨w.heap.size+k,?_,fun j u hu=>?_⟩⟩
 ·rcases k with _|_|_|_|_|k
  ·exact top _ _ rfl
  ·exact top _ _ rfl
  ·exact top _ _ rfl
  ·exact top _ _ rfl
  ·exact top _ _ rfl
  ·omega
 ·unfold fiveRows
  rcases k with _|_|_|_|_|k
  ·simp[go_sem,hu]
  ·simp[go_sem,hu]
  ·simp[go_sem,hu]
  ·simp[go_sem,hu]
  ·simp[go_sem,hu]
  ·omega
theorem rows_any(w:World):Calls Tryz.prog 160 #[] w fun e w'=>e= .returned (.slice (some ⟨w.heap.size+5,0,none⟩) 5 5)/\TabAt w' (w.heap.size+5) (fun k=>(opTexts k).map .string)/\Kin w w':=by
 have HT:=Lib.hid (zbf w 9 23 (fun k=>(opTexts k).map .string))
 have HK:=Lib.hid (zbg w 9 23 (fun k=>(opTexts k).map .string))
 go_enter Tryz.func160,Tryz.ntmps160
 go_wp2
 go_ret
 exact⟨rfl,HT.out,HK.out⟩
theorem zir(w:World):Calls Tryz.prog 161 #[] w fun e w'=>e= .returned (.slice (some ⟨w.heap.size+5,0,none⟩) 5 5)/\TabAt w' (w.heap.size+5) (fun k=>(js k).map (.int .i64))/\Kin w w':=by
 have HT:=Lib.hid (zbf w 3 36 (fun k=>(js k).map (.int .i64)))
 have HK:=Lib.hid (zbg w 3 36 (fun k=>(js k).map (.int .i64)))
 go_enter Tryz.func161,Tryz.ntmps161
 go_wp2
 go_ret
 exact⟨rfl,HT.out,HK.out⟩
def uk(l:List Item):Prop:=∀t∈l,t.kind≠1->t.kind≠2->∀k,(opsOf k).lookup t.text.toList=none
def opP(C:Ctx)(k i:Nat)(b:Int):Int:=if b<0 then (opAt k C.l i).getD 0 else 0
theorem zab{x:List UInt8}:∀(l:List (List UInt8×Int)) (j:Nat) (p:List UInt8×Int),l[j]? =some p->p.1=x->(∀(m:Nat) (q:List UInt8×Int),m<j->l[m]? =some q->q.1≠x)->l.lookup x=some p.2
 |[],j,p,h,_,_=>by simp at h
 |(a,c)::l,0,p,h,hp,_=>by
  simp only[List.getElem?_cons_zero,Option.some.injEq] at h
  subst h
  subst hp
  simp[List.lookup]
 |(a,c)::l,j+1,p,h,hp,hn=>by
  have h0:=hn 0 (a,c) (by omega) rfl
  have:(x==a)=false:=by simp only[beq_eq_false_iff_ne];exact fun e=>h0 e.symm
  simp only[List.lookup,this]
  exact zab l j p (by simpa using h) hp fun m q hm hq=>hn (m+1) q (by omega) (by simpa using hq)
theorem lookup_no{x:List UInt8}:∀(l:List (List UInt8×Int)),(∀(m:Nat) (q:List UInt8×Int),l[m]? =some q->q.1≠x)->l.lookup x=none
 |[],_=>rfl
 |(a,c)::l,hn=>by
  have h0:=hn 0 (a,c) rfl
  have:(x==a)=false:=by simp only[beq_eq_false_iff_ne];exact fun e=>h0 e.symm
  simp only[List.lookup,this]
  exact lookup_no l fun m q hq=>hn (m+1) q (by simpa using hq)
theorem zgO{k j:Nat}{t:ByteArray}(h:(opTexts k)[j]? =some t):∃p,(opsOf k)[j]? =some p/\p.1=t.toList/\(js k)[j]? =some p.2:=by
 unfold opTexts at h
 rw[List.getElem?_map,Option.map_eq_some_iff] at h
 obtain⟨p,h1,h2⟩:=h
 refine⟨p,h1,?_,by unfold js;rw[List.getElem?_map,h1];rfl⟩
 rw[<-h2,ByteArray.toList_eq]
theorem zgQ{C:Ctx}{k i j:Nat}{b:Int}{t:ByteArray}(hL:uk C.l)(ht:(opTexts k)[j]? =some t)(hi:isP C i b t=true)(hn:∀(m:Nat) (u:ByteArray),m<j->(opTexts k)[m]? =some u->isP C i b u=false):∃x,(js k)[j]? =some x/\opP C k i b=x:=by
 obtain⟨p,h1,h2,h3⟩:=zgO ht
 refine⟨p.2,h3,?_⟩
 unfold isP at hi hn
 rw[Bool.and_eq_true,decide_eq_true_eq] at hi
 obtain⟨hb,hc⟩:=hi
 rw[decide_eq_true hb] at hn
 unfold opP
 rw[if_pos hb]
 unfold comesB at hc hn
 unfold opAt
 split at hc
 ·rename_i x hx
  rw[hx] at hn⊢
  simp only[Bool.and_eq_true,decide_eq_true_eq] at hc
  obtain⟨hk1,hte⟩:=hc
  have hte':x.text.toList=t.toList:=by simpa using hte
  have hlk:(opsOf k).lookup x.text.toList=some p.2:=by
   refine zab _ j p h1 (h2.trans hte'.symm) fun m q hm hq=>?_
   have hu:(opTexts k)[m]? =some ⟨q.1.toArray⟩:=by unfold opTexts;rw[List.getElem?_map,hq];rfl
   have:=hn m _ hm hu
   simp only[Bool.true_and,decide_eq_true hk1] at this
   rw[ByteArray.toList_eq (bs:=(⟨q.1.toArray⟩:ByteArray))] at this
   intro e
   rw[<-e] at this
   simp at this
  have hk2:x.kind=2:=by
   rcases Decidable.em (x.kind=2) with h|h
   ·exact h
   ·rw[hL x (List.mem_of_getElem? hx) hk1 h k] at hlk
    cases hlk
  simp only
  rw[if_pos hk2,hlk]
  rfl
 ·cases hc
theorem op_none{C:Ctx}{k i:Nat}{b:Int}(hn:∀(m:Nat) (u:ByteArray),(opTexts k)[m]? =some u->isP C i b u=false):opP C k i b=0:=by
 unfold opP
 by_cases hb:b<0
 ·rw[if_pos hb]
  unfold isP at hn
  rw[decide_eq_true hb] at hn
  unfold comesB at hn
  unfold opAt
  split
  ·rename_i x hx
   rw[hx] at hn
   split
   ·rename_i hk2
    rw[lookup_no]
    ·rfl
    ·intro m q hq e
     have hu:(opTexts k)[m]? =some ⟨q.1.toArray⟩:=by unfold opTexts;rw[List.getElem?_map,hq];rfl
     have:=hn m _ hu
     simp only[Bool.true_and] at this
     rw[ByteArray.toList_eq (bs:=(⟨q.1.toArray⟩:ByteArray))] at this
     rw[<-e] at this
     simp[hk2] at this
   ·rfl
  ·rfl
 ·rw[if_neg hb]
theorem zb4(k:Nat):(opTexts k).length<=6/\(js k).length=(opTexts k).length:=by
 unfold opTexts js
 refine⟨?_,by simp⟩
 rcases k with _|_|_|_|k<;>simp[opsOf]
theorem kin_drewn{w w':World}(h:∃n,w'=w.drewN n):Kin w w':=by
 obtain⟨n,rfl⟩:=h
 exact(Kin.refl w).drewN n
theorem vC(C:Ctx)(hL:uk C.l)(k i:Nat)(hk:k<5)(b:Int)(w:World)(h:RP C i b w):Calls Tryz.prog 132 #[.pointer (some ⟨C.r,0,none⟩), .int .i64 k] w fun x w'=>x= .returned (.int .i64 (opP C k i b))/\Kin w w':=by
 have H:=Lib.hid h
 have HLX:=Lib.hid hL
 obtain⟨hl6,hl7⟩:=zb4 k
 clear h hL
 generalize hR:opP C k i b=R
 have HR:=Lib.hid hR
 clear hR
 go_enter Tryz.func132,Tryz.ntmps132
 go_wp2_with (go_at_call 160;with_reducible refine(rows_any _).mono ?_;rintro e w1 ⟨rfl,hT,K1⟩;obtain⟨g,q0,hq⟩:=hT.row k hk;have HQ:=Lib.hid hq;have HK1:=Lib.hid K1;simp only[List.length_map] at q0;clear hq K1)
 go_loopg [6] (opTexts k).length (fun gg y wr=>∃j:Nat,y= .int .i64 j/\j<=(opTexts k).length/\gg=(opTexts k).length-j/\Kin w1 wr/\∀(m:Nat) (u:ByteArray),m<j->(opTexts k)[m]? =some u->isP C i b u=false)
 case atStart=>exact⟨0,rfl,Nat.zero_le _,rfl,Kin.refl _,fun m u hm=>by omega⟩
 case round=>
  obtain⟨j,rfl,hj,hgg,hK,hno⟩:=hrel
  have HG:=Lib.hid hgg
  have HK:=Lib.hid hK
  have HN:=Lib.hid hno
  clear hgg hK hno
  by_cases hlt:j<(opTexts k).length
  ·obtain⟨t,ht⟩:∃t,(opTexts k)[j]? =some t:=⟨_,List.getElem?_eq_getElem hlt⟩
   have hc0:=HQ.out j (.string t) (by rw[List.getElem?_map,ht];rfl)
   have hct:wr.cell? ⟨g,j,none⟩=some (.string t):=(HK.out.cell (World.block_lt_of_cell? w1 _ hc0)).trans hc0
   have HI:=Lib.hid (gv C i b t wr ((H.out.kin HK1.out).kin HK.out))
   have HT:=Lib.hid ht
   clear hc0 ht
   cases hi:isP C i b t with
   |false=>
    have HF:=Lib.hid hi
    rw[hi] at HI
    clear hi
    go_wp2_with (go_at_call 46;with_reducible refine HI.out.mono ?_;rintro e w2 ⟨rfl,n,rfl⟩)
    go_roundg ((opTexts k).length-(j+1))
    case measure=>have:=HG.out;omega
    case rel=>
     refine⟨j+1,by simp,by omega,rfl,HK.out.drewN _,fun m u hm hu=>?_⟩
     by_cases e:m=j
     ·subst e
      rw[HT.out] at hu
      cases hu
      exact HF.out
     ·exact HN.out m u (by omega) hu
   |true=>
    obtain⟨x,hx1,hx2⟩:=zgQ HLX.out HT.out hi HN.out
    have HX1:=Lib.hid hx1
    have HX2:=Lib.hid hx2
    rw[hi] at HI
    clear hi hx1 hx2
    go_wp2_with (first|(go_at_call 46;with_reducible refine HI.out.mono ?_;rintro e w2 ⟨rfl,hw2⟩;have K2:=kin_drewn hw2;clear hw2)|(go_at_call 161;(with_reducible refine(zir _).mono ?_;rintro e w3 ⟨rfl,hT2,K3⟩;obtain⟨g2,p0,hp⟩:=hT2.row k hk;have px:=hp j (.int .i64 x) (by rw[List.getElem?_map,HX1.out,Option.map_some]);simp only[List.length_map,hl7] at p0;clear hp)))
    go_ret
    exact⟨congrArg (fun x=>Ending.returned (.int .i64 x)) (HX2.out.symm.trans HR.out),HK1.out.trans ((HK.out.trans K2).trans K3)⟩
  ·obtain rfl:j=(opTexts k).length:=by omega
   have h0:=op_none (C:=C) (k:=k) (i:=i) (b:=b) fun m u hu=>HN.out m u (List.getElem?_eq_some_iff.1 hu).1 hu
   have H0:=Lib.hid h0
   clear h0
   go_wp2_with fail
   go_ret
   exact⟨congrArg (fun x=>Ending.returned (.int .i64 x)) (H0.out.symm.trans HR.out),HK1.out.trans HK.out⟩
def NtOk(l:List Nd):Prop:=∀n∈l,1<=n.depth/\n.depth<=l.length
theorem NtOk.nil:NtOk []:=fun n h=>by cases h
theorem NtOk.append{a b:List Nd}(ha:NtOk a)(hb:NtOk b):NtOk (a++b):=by
 intro n hn
 rw[List.length_append]
 rcases List.mem_append.1 hn with h|h
 ·have:=ha n h;omega
 ·have:=hb n h;omega
theorem jW(n:Nd)(vs:List (Value×List Nd))(h:∀x∈vs,NtOk x.2):NtOk (nodeL n vs):=by
 have key:∀m∈xg vs,2<=m.depth/\m.depth<=(xg vs).length+1:=by
  induction vs with
  |nil=>intro m hm;cases hm
  |cons x vs ih=>
   intro m hm
   have hl:(xg (x::vs)).length=x.2.length+(xg vs).length:=by simp[xg,xf]
   have hm':m∈deepL x.2++xg vs:=by simpa [xg] using hm
   rcases List.mem_append.1 hm' with h1|h1
   ·obtain⟨q,hq,rfl⟩:=List.mem_map.1 h1
    have:=h x (List.mem_cons_self ..) q hq
    simp only
    omega
   ·have:=ih (fun y hy=>h y (List.mem_cons_of_mem _ hy)) m h1
    omega
 intro m hm
 unfold nodeL at hm⊢
 rw[List.length_cons]
 rcases List.mem_cons.1 hm with rfl|h1
 ·simp only[topN];omega
 ·have:=key m h1;omega
theorem zd1(d:Int):∀t:Tr,deepL (flatT t d)=flatT t (d+1):=by
 have key:∀(n:Nat) (ts:List Tr) (d:Int),(flatTs ts 0).length<=n->deepL (flatTs ts d)=flatTs ts (d+1):=by
  intro n
  induction n with
  |zero=>
   intro ts d h
   cases ts with
   |nil=>rfl
   |cons t ts=>cases t;simp[flatTs,flatT] at h
  |succ n ih=>
   intro ts d h
   cases ts with
   |nil=>rfl
   |cons t ts=>
    cases t with
    |mk m ks=>
     simp only[flatTs,flatT,List.length_append,List.length_cons] at h
     have e1:=yK (0+1) 0 ks
     have h1:=ih ks (d+1) (by omega)
     have h2:=ih ts d (by omega)
     simp only[flatTs,flatT]
     unfold deepL at h1 h2⊢
     rw[List.map_append,List.map_cons,h1,h2]
 intro t
 have:=key _ [t] d (Nat.le_refl _)
 simpa [flatTs] using this
theorem yC(d:Int):∀ts:List Tr,deepL (flatTs ts d)=flatTs ts (d+1)
 |[]=>rfl
 |t::ts=>by
  have h1:=zd1 d t
  have h2:=yC d ts
  simp only[flatTs]
  unfold deepL at h1 h2⊢
  rw[List.map_append,h1,h2]
theorem ki{n:Nd}{vs:List (Value×List Nd)}{k:Int}{name:ByteArray}{num op a:Int}{ks:List Tr}(hn:n.kind=k/\n.name=name/\n.num=num/\n.op=op/\n.at_=a)(hk:xg vs=flatTs ks 2):nodeL n vs=flatTs [zv k name num op a ks] 1:=by
 obtain⟨h1,h2,h3,h4,h5⟩:=hn
 simp only[flatTs,zv,flatT,List.append_nil]
 unfold nodeL topN
 rw[hk,h1,h2,h3,h4,h5]
 rfl
def Ans(r:Res (List Tr))(l:List Nd)(j:Nat)(b':Int):Prop:=match r with
 | .ok ts j'=>j=j'/\b'= -1/\l=flatTs ts 1
 | .no p=>b'=p/\0<=p
abbrev Vb(b:Int):Prop:=b= -1\/0<=b
@[reducible] def bzN:NT->Nat
 | .block=>1
 |_=>0
theorem zjz(nt:NT):bzN nt<=1:=by cases nt<;>simp[bzN]
def PN(C:Ctx)(nt:NT)(i:Nat)(b:Int)(l:List Nd)(j:Nat)(b':Int):Prop:=
 i<=j/\l.length<=j-i+bzN nt/\NtOk l/\Vb b'/\(0<=b->j=i/\b'=b)/\(b= -1->∀f r,rd C f nt i=some r->Ans r l j b')
abbrev yH(C:Ctx)(w:World)(P:List Nd->Nat->Int->Prop)(e:Ending)(w':World):Prop:=
 ∃v l j b',e= .returned v/\w'.ownsRow w.heap.size 50 6 v l.length (ndCells l)/\RP C j b' w'/\Gr C.r w w'/\P l j b'
def remP(C:Ctx)(i:Nat)(b:Int):Nat:=if b<0 then C.l.length-i+1 else 0
structure PSt (C:Ctx) (w:World) (R:Nat) (i:Nat) (b:Int) (wk:World):Prop where
 rp:RP C i b wk
 gr:Gr C.r w wk
 vb:Vb b
 rem:remP C i b<=R
theorem PSt.start{C:Ctx}{i:Nat}{b:Int}{w:World}(h:RP C i b w)(hb:Vb b):PSt C w (remP C i b) i b w:=⟨h, .refl _ _,hb,Nat.le_refl _⟩
theorem PSt.kin{C:Ctx}{w wk w':World}{R i:Nat}{b:Int}(h:PSt C w R i b wk)(K:Kin wk w'):PSt C w R i b w':=⟨h.rp.kin K,h.gr.trans (.of_kin K),h.vb,h.rem⟩
theorem jP{C:Ctx}{i:Nat}{b:Int}{w:World}(h:RP C i b w):0<=bad1 C i b/\(0<=b->bad1 C i b=b):=by
 unfold bad1
 split
 ·exact⟨yz h i,fun h=>by omega⟩
 ·rename_i hb;exact⟨by omega,fun _=>rfl⟩
theorem uL{C:Ctx}{i:Nat}{b:Int}(h:0<=b):remP C i b=0:=by unfold remP;rw[if_neg (by omega)]
theorem remP_good{C:Ctx}{i:Nat}{b:Int}(h:b<0):remP C i b=C.l.length-i+1:=by unfold remP;rw[if_pos h]
theorem zgp{C:Ctx}{i:Nat}{b:Int}{s:ByteArray}{w:World}(h:RP C i b w):remP C (zi C i b s) (zn C i b s)<=remP C i b:=by
 unfold zi zn
 split
 ·rename_i hi
  have hb:=(isP_lt hi).2
  rw[remP_good hb,remP_good hb];omega
 ·rw[uL (jP h).1];exact Nat.zero_le _
theorem zgW{C:Ctx}{i:Nat}{b:Int}{w:World}(h:RP C i b w):remP C (nameJ C i b) (zE C i b)<=remP C i b:=by
 unfold nameJ zE
 split
 ·rename_i hi
  have hb:b<0:=by unfold namedP at hi;rw[Bool.and_eq_true,decide_eq_true_eq] at hi;exact hi.1
  rw[remP_good hb,remP_good hb];omega
 ·rw[uL (jP h).1];exact Nat.zero_le _
theorem PSt.take{C:Ctx}{w wk w':World}{R i:Nat}{b:Int}{s:ByteArray}(h:PSt C w R i b wk)(h1:RP C (zi C i b s) (zn C i b s) w')(h2:Grew C wk w'):PSt C w R (zi C i b s) (zn C i b s) w':=by
 refine⟨h1,h.gr.trans (.of_grew h2),?_,Nat.le_trans (zgp h.rp) h.rem⟩
 unfold zn
 split
 ·exact h.vb
 ·exact .inr (jP h.rp).1
theorem PSt.fail{C:Ctx}{w wk w':World}{R i:Nat}{b:Int}(h:PSt C w R i b wk)(h1:RP C i (bad1 C i b) w')(h2:Grew C wk w'):PSt C w R i (bad1 C i b) w':=
 ⟨h1,h.gr.trans (.of_grew h2), .inr (jP h.rp).1,by rw[uL (jP h.rp).1];exact Nat.zero_le _⟩
theorem PSt.name{C:Ctx}{w wk w':World}{R i:Nat}{b:Int}(h:PSt C w R i b wk)(h1:RP C (nameJ C i b) (zE C i b) w')(h2:Gr C.r wk w'):PSt C w R (nameJ C i b) (zE C i b) w':=by
 refine⟨h1,h.gr.trans h2,?_,Nat.le_trans (zgW h.rp) h.rem⟩
 unfold zE
 split
 ·exact h.vb
 ·exact .inr (jP h.rp).1
theorem PSt.inc{C:Ctx}{w wk:World}{R i:Nat}{b:Int}(h:PSt C w R i b wk)(hlt:i<C.l.length)(hR:C.l.length-(i+1)+1<=R):PSt C w R (i+1) b (wk.setCell ⟨C.r,1,none⟩ (.int .i64 (↑i+1))):=by
 refine⟨?_,h.gr.setCell _ _,h.vb,?_⟩
 ·have:=h.rp.setAt (j:=i+1) hlt
  simpa using this
 ·unfold remP;split<;>omega
theorem PSt.less{C:Ctx}{w wk:World}{R R' i:Nat}{b:Int}(h:PSt C w R i b wk)(hR:remP C i b<=R'):PSt C w R' i b wk:=⟨h.rp,h.gr,h.vb,hR⟩
theorem PN.rem{C:Ctx}{nt:NT}{i j:Nat}{b b':Int}{l:List Nd}(h:PN C nt i b l j b')(hv:Vb b):remP C j b'<=remP C i b:=by
 obtain⟨h1,_,_,h4,h5,_⟩:=h
 rcases hv with rfl|hb
 ·rw[remP_good (C:=C) (i:=i) (b:= -1) (by omega)]
  unfold remP
  split<;>omega
 ·obtain⟨rfl,rfl⟩:=h5 hb
  exact Nat.le_refl _
theorem PSt.sub{C:Ctx}{w wk w':World}{R i j:Nat}{b b':Int}{nt:NT}{l:List Nd}(h:PSt C w R i b wk)(h1:RP C j b' w')(h2:Gr C.r wk w')(hp:PN C nt i b l j b'):PSt C w R j b' w':=
 ⟨h1,h.gr.trans h2,hp.2.2.2.1,Nat.le_trans (hp.rem h.vb) h.rem⟩
theorem RP.at1{C:Ctx}{i:Nat}{b:Int}{w:World}(h:RP C i b w):w.cell? ⟨C.r,1,none⟩=some (.int .i64 i)/\w.frozen? ⟨C.r,1,none⟩=false/\w.cell? ⟨C.r,3,none⟩=some (.int .i64 b):=by
 obtain⟨_,_,_,_,_,h1,_,h3,hf,_⟩:=h.cells
 exact⟨h1,hf,h3⟩
theorem za(C:Ctx)(i:Nat)(b:Int)(s:ByteArray)(w:World)(h:RP C i b w):Calls Tryz.prog 46 #[.pointer (some ⟨C.r,0,none⟩), .string s] w fun x w'=>x= .returned (.bool (isP C i b s))/\Kin w w':=
 (gv C i b s w h).mono fun e w' h=>⟨h.1,kin_drewn h.2⟩
theorem zq(C:Ctx)(i:Nat)(b:Int)(w:World)(h:RP C i b w):Calls Tryz.prog 88 #[.pointer (some ⟨C.r,0,none⟩)] w fun x w'=>x= .returned (.int .i64 (placeOf C.l C.e i))/\Kin w w':=
 (rplace_any C i b w h).mono fun e w' h=>⟨h.1,kin_drewn h.2⟩
theorem zj4(w:World):kP w (.slice none 0 0) []:=⟨none,0,rfl,fun h=>absurd rfl h⟩
theorem zj3(w:World)(t:TypeId)(x1:Value×List Nd):kP (w.alloc (.cells #[x1.1] t)) (.slice (some ⟨w.heap.size,0,none⟩) 1 1) [x1]:=⟨_,1,rfl,fun _=>⟨_,rfl,Nat.le_refl _,fun j x hx=>by
 rcases j with _|j
 ·cases hx;simp[go_sem]
 ·simp at hx⟩⟩
theorem held2(w:World)(t:TypeId)(x1 x2:Value×List Nd):kP (w.alloc (.cells #[x1.1,x2.1] t)) (.slice (some ⟨w.heap.size,0,none⟩) 2 2) [x1,x2]:=⟨_,2,rfl,fun _=>⟨_,rfl,Nat.le_refl _,fun j x hx=>by
 rcases j with _|_|j
 ·cases hx;simp[go_sem]
 ·cases hx;simp[go_sem]
 ·simp at hx⟩⟩
theorem held3(w:World)(t:TypeId)(x1 x2 x3:Value×List Nd):kP (w.alloc (.cells #[x1.1,x2.1,x3.1] t)) (.slice (some ⟨w.heap.size,0,none⟩) 3 3) [x1,x2,x3]:=⟨_,3,rfl,fun _=>⟨_,rfl,Nat.le_refl _,fun j x hx=>by
 rcases j with _|_|_|j
 ·cases hx;simp[go_sem]
 ·cases hx;simp[go_sem]
 ·cases hx;simp[go_sem]
 ·simp at hx⟩⟩
def Lst(B:Nat)(w:World)(x:Value×List Nd):Prop:=w.ownsRow B 50 6 x.1 x.2.length (ndCells x.2)/\NtOk x.2/\x.2.length<=20000
theorem Lst.kin{B:Nat}{w w':World}{x:Value×List Nd}(h:Lst B w x)(K:Kin w w'):Lst B w' x:=⟨yA h.1 K,h.2⟩
theorem Lst.gr{B r:Nat}{w w':World}{x:Value×List Nd}(h:Lst B w x)(G:Gr r w w')(hr:r<B):Lst B w' x:=⟨G.owns h.1 hr,h.2⟩
abbrev ndV(n:Nd):Value:= .agg #[.int .i64 n.depth, .int .i64 n.kind, .string n.name, .int .i64 n.num, .int .i64 n.op, .int .i64 n.at_]
theorem kV(n:Nd)(vs:List (Value×List Nd))(hvl:vs.length<=3)(hb:Value)(B:Nat)(wk w:World)(K:Kin wk w)(hB:B<=wk.heap.size)(hheld:kP w hb vs)(hl:∀x∈vs,Lst B w x):
 Calls Tryz.prog 91 #[ndV n,hb] w fun e w'=>∃v,e= .returned v/\w'.ownsRow B 50 6 v (nodeL n vs).length (ndCells (nodeL n vs))/\Kin wk w':=
 (zgU n vs hvl hb w hheld (fun x hx=> .of_owns (hl x hx).1) (fun x hx=>(hl x hx).2.2) (fun x hx m hm=>by have h1:=(hl x hx).2.1 m hm;have h2:=(hl x hx).2.2;omega)).mono fun e w' h=>by
  obtain⟨v,h1,h2,h3⟩:=h
  exact⟨v,h1,h2.mono (Nat.le_trans hB K.size),K.trans h3⟩
theorem qM(n:Nd)(B:Nat)(w:World)(hB:B<=w.heap.size):Calls Tryz.prog 91 #[ndV n, .slice none 0 0] w fun e w'=>∃v,e= .returned v/\w'.ownsRow B 50 6 v (nodeL n []).length (ndCells (nodeL n []))/\Kin w w':=
 kV n [] (by simp) _ B w w (Kin.refl _) hB (zj4 w) (fun x hx=>by cases hx)
theorem node1(n:Nd)(B:Nat)(w:World)(hB:B<=w.heap.size)(x1:Value×List Nd)(h1:Lst B w x1):Calls Tryz.prog 91 #[ndV n, .slice (some ⟨w.heap.size,0,none⟩) 1 1] (w.alloc (.cells #[x1.1] 25)) fun e w'=>∃v,e= .returned v/\w'.ownsRow B 50 6 v (nodeL n [x1]).length (ndCells (nodeL n [x1]))/\Kin w w':=
 kV n [x1] (by simp) _ B w _ ((Kin.refl _).alloc _) hB (zj3 w 25 x1) (fun x hx=>by rw[List.mem_singleton.1 hx];exact h1.kin ((Kin.refl _).alloc _))
theorem zaA(n:Nd)(B:Nat)(w:World)(hB:B<=w.heap.size)(x1 x2:Value×List Nd)(h1:Lst B w x1)(h2:Lst B w x2):Calls Tryz.prog 91 #[ndV n, .slice (some ⟨w.heap.size,0,none⟩) 2 2] (w.alloc (.cells #[x1.1,x2.1] 25)) fun e w'=>∃v,e= .returned v/\w'.ownsRow B 50 6 v (nodeL n [x1,x2]).length (ndCells (nodeL n [x1,x2]))/\Kin w w':=
 kV n [x1,x2] (by simp) _ B w _ ((Kin.refl _).alloc _) hB (held2 w 25 x1 x2) (fun x hx=>by
  simp only[List.mem_cons,List.not_mem_nil,or_false] at hx
  rcases hx with rfl|rfl
  ·exact h1.kin ((Kin.refl _).alloc _)
  ·exact h2.kin ((Kin.refl _).alloc _))
theorem node3(n:Nd)(B:Nat)(w:World)(hB:B<=w.heap.size)(x1 x2 x3:Value×List Nd)(h1:Lst B w x1)(h2:Lst B w x2)(h3:Lst B w x3):Calls Tryz.prog 91 #[ndV n, .slice (some ⟨w.heap.size,0,none⟩) 3 3] (w.alloc (.cells #[x1.1,x2.1,x3.1] 25)) fun e w'=>∃v,e= .returned v/\w'.ownsRow B 50 6 v (nodeL n [x1,x2,x3]).length (ndCells (nodeL n [x1,x2,x3]))/\Kin w w':=
 kV n [x1,x2,x3] (by simp) _ B w _ ((Kin.refl _).alloc _) hB (held3 w 25 x1 x2 x3) (fun x hx=>by
  simp only[List.mem_cons,List.not_mem_nil,or_false] at hx
  rcases hx with rfl|rfl|rfl
  ·exact h1.kin ((Kin.refl _).alloc _)
  ·exact h2.kin ((Kin.refl _).alloc _)
  ·exact h3.kin ((Kin.refl _).alloc _))
def noStmt:Res (List Tr)->Bool
 | .ok ts _=>ts.isEmpty
 | .no _=>false
def PS(C:Ctx)(i:Nat)(l:List Nd)(j:Nat)(b':Int):Prop:=
 i<=j/\l.length<=j-i+1/\NtOk l/\Vb b'/\l≠[]/\∀f r,rd C f .stmt i=some r->if noStmt r then b'=placeOf C.l C.e i/\0<=b' else Ans r l j b'
structure PAll (C:Ctx) (N:Nat):Prop where
 expr:∀(k i:Nat) (b:Int) (w:World),k<=5->RP C i b w->Vb b->remP C i b*20+(8-k)<N->Calls Tryz.prog 93 #[.pointer (some ⟨C.r,0,none⟩), .int .i64 k] w (yH C w (PN C (.row k) i b))
 unary:∀(i:Nat) (b:Int) (w:World),RP C i b w->Vb b->remP C i b*20+2<N->Calls Tryz.prog 131 #[.pointer (some ⟨C.r,0,none⟩)] w (yH C w (PN C .unary i b))
 atom:∀(i:Nat) (b:Int) (w:World),RP C i b w->Vb b->remP C i b*20+1<N->Calls Tryz.prog 159 #[.pointer (some ⟨C.r,0,none⟩)] w (yH C w (PN C .atom i b))
 block:∀(i:Nat) (b:Int) (w:World),RP C i b w->Vb b->remP C i b*20+9<N->Calls Tryz.prog 94 #[.pointer (some ⟨C.r,0,none⟩)] w (yH C w (PN C .block i b))
 stmt:∀(i:Nat) (w:World),RP C i (-1) w->remP C i (-1)*20+10<N->Calls Tryz.prog 48 #[.pointer (some ⟨C.r,0,none⟩)] w (yH C w (PS C i))
theorem zQ{w:World}{B n:Nat}{e:TypeId}{size:Nat}{v:Value}{xs:List Value}(h:w.ownsRow B e size v n xs):∃bo m cap,v= .slice bo m cap:=by
 rcases h.2 with⟨rfl,_⟩|⟨g,cap,_,rfl,_⟩
 ·exact⟨_,_,_,rfl⟩
 ·exact⟨_,_,_,rfl⟩
theorem lst_of{C:Ctx}{w w':World}{nt:NT}{i j:Nat}{b b':Int}{v:Value}{l:List Nd}{B:Nat}(ho:w'.ownsRow w.heap.size 50 6 v l.length (ndCells l))(hB:B<=w.heap.size)(hp:PN C nt i b l j b')(hR:RP C j b' w'):Lst B w' (v,l):=by
 refine⟨ho.mono hB,hp.2.2.1,?_⟩
 have h1:=hp.2.1
 have h2:=hR.le
 have h3:=hR.len
 have h4:=zjz nt
 show l.length<=20000
 omega
end Go.Proofs.YtonmcakdofbjiaaGreatDoor
