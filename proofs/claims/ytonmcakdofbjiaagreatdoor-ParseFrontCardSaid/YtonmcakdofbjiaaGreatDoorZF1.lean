/-
  winnowlaw03.ParseFront answers true at every text and every place: the row, and the tied card. Conditions: those of the given statement.
-/
import Derived.Test.YtonmcakdofbjiaaGreatDoorZ23
import Derived.Test.YtonmcakdofbjiaaGreatDoorTie
import Derived.Test.YtonmcakdofbjiaaGreatDoorCards
set_option linter.all false
set_option maxRecDepth 100000
set_option maxHeartbeats 8000000
namespace Go.Proofs.YtonmcakdofbjiaaGreatDoor
open Go.RowKit
theorem aC(s:ByteArray){p:Nat}(hp:p<=s.size):(s.extract 0 p).size=p:=by rw[ByteArray.size_extract];omega
theorem ju(s:ByteArray){p j:Nat}(hp:p<=s.size)(h:j<(s.extract 0 p).size):∃h2:j<s.size,(s.extract 0 p)[j]=s[j]:=by
 obtain⟨h2,e⟩:=jj s 0 p j hp h
 have e0:0+j=j:=Nat.zero_add j
 exact⟨by omega,by rw[e];simp only[e0]⟩
theorem kY{s:ByteArray}{p i:Nat}{pred:Int->Bool}(hp:p<=s.size)(hi:i<=p)(h:upto pred s i<=p):upto pred (s.extract 0 p) i=upto pred s i:=by
 obtain⟨h1,h2,h3,h4⟩:=upto_spec pred s i (by omega)
 refine(upto_of ⟨h1,by rw[aC s hp];exact h,fun j hj ha hb=>?_,fun hk=>?_⟩).symm
 ·obtain⟨hj2,e⟩:=ju s hp hj
  rw[e]
  exact h3 j hj2 ha hb
 ·obtain⟨hj2,e⟩:=ju s hp hk
  rw[e]
  exact h4 hj2
theorem zcd{s:ByteArray}{p:Nat}(hp:p<=s.size):∀f f' i,i<=p->s.size-i<=f->p-i<=f'->skipF s f i<=p->skipF (s.extract 0 p) f' i=skipF s f i:=by
 intro f
 induction f with
 |zero=>
  intro f' i hi hf hf' hk
  have e:skipF s 0 i=i:=rfl
  cases f' with
  |zero=>rfl
  |succ f'=>
   unfold skipF
   rw[dif_neg (by rw[aC s hp];omega)]
 |succ f ih=>
  intro f' i hi hf hf' hk
  by_cases hip:i=p
  ·have hge:=uK s (f+1) i
   have e:skipF s (f+1) i=i:=by omega
   rw[e]
   cases f' with
   |zero=>rfl
   |succ f'=>
    unfold skipF
    rw[dif_neg (by rw[aC s hp];omega)]
  ·have hlt:i<p:=by omega
   obtain⟨f',rfl⟩:∃x,f'=x+1:=⟨f'-1,by omega⟩
   have hti:i<(s.extract 0 p).size:=by rw[aC s hp];exact hlt
   obtain⟨hsi,e⟩:=ju s hp hti
   unfold skipF at hk⊢
   rw[dif_pos hsi] at hk⊢
   rw[dif_pos hti,e]
   split at hk
   ·rename_i hb
    rw[if_pos hb,if_pos hb]
    exact ih f' (i+1) (by omega) (by omega) (by omega) hk
   ·rename_i hb
    rw[if_neg hb,if_neg hb]
    split at hk
    ·rename_i h35
     rw[if_pos h35,if_pos h35]
     have hge:=uK s f (upto isLine s i)
     have hu:=kY (pred:=isLine) hp hi (by omega)
     have hpos:=uQ hsi h35 (upto_spec isLine s i (by omega))
     rw[hu]
     exact ih f' _ (by omega) (by omega) (by omega) hk
    ·rename_i h35
     rw[if_neg h35,if_neg h35]
theorem front_skip{s:ByteArray}{p i:Nat}(hp:p<=s.size)(hi:i<=p)(h:skipTo s i<=p):skipTo (s.extract 0 p) i=skipTo s i:=by
 unfold skipTo at h⊢
 rw[aC s hp]
 exact zcd hp _ _ i hi (Nat.le_refl _) (Nat.le_refl _) h
theorem vO{s:ByteArray}{p i:Nat}(hp:p<=s.size)(hi:i<p):letterAt (s.extract 0 p) i=letterAt s i/\z8 (s.extract 0 p) i=z8 s i:=by
 have hti:i<(s.extract 0 p).size:=by rw[aC s hp];exact hi
 obtain⟨hsi,e⟩:=ju s hp hti
 unfold letterAt z8
 rw[dif_pos hti,dif_pos hti,dif_pos hsi,dif_pos hsi,e]
 exact⟨rfl,rfl⟩
theorem aG(s:ByteArray){p i k:Nat}(hp:p<=s.size)(hk:k<=p):(s.extract 0 p).extract i k=s.extract i k:=by
 apply ByteArray.ext
 simp only[ByteArray.data_extract]
 apply Array.ext_getElem?
 intro j
 have hz:s.data.size=s.size:=rfl
 simp only[Array.getElem?_extract,Array.size_extract,hz,Nat.min_eq_left hp,Nat.sub_zero,Nat.zero_add,Nat.min_eq_left hk,Nat.min_eq_left (Nat.le_trans hk hp)]
 by_cases hj:j<k-i
 ·rw[if_pos hj,if_pos hj,if_pos (by omega)]
 ·rw[if_neg hj,if_neg hj]
theorem front_sign{s:ByteArray}{p i:Nat}(hp:p<=s.size)(hi:i<p)(h:i+(signAt s i).size<=p):signAt (s.extract 0 p) i=signAt s i:=by
 have hti:i<(s.extract 0 p).size:=by rw[aC s hp];exact hi
 obtain⟨hsi,e⟩:=ju s hp hti
 unfold signAt at h⊢
 by_cases h2:i+1<s.size/\twos.any (fun t=>(s.extract i (i+2)).toList==t)=true
 ·rw[if_pos h2] at h⊢
  rw[ByteArray.size_extract] at h
  rw[if_pos,aG s hp (by omega)]
  rw[aC s hp,aG s hp (by omega)]
  exact⟨by omega,h2.2⟩
 ·rw[if_neg h2] at h⊢
  rw[dif_pos hsi] at h⊢
  rw[if_neg,dif_pos hti,e]
  ·split
   ·rename_i ho
    rw[aG s hp (by omega)]
   ·rfl
  ·rintro⟨ha,hb⟩
   rw[aC s hp] at ha
   rw[aG s hp (by omega)] at hb
   exact h2 ⟨by omega,hb⟩
theorem front_item{s:ByteArray}{p k:Nat}(hp:p<=s.size)(hk:k<p)(hc:(itemAt s k).code=0)(h:k+(itemAt s k).text.size<=p):itemAt (s.extract 0 p) k=itemAt s k:=by
 obtain⟨hl,hd⟩:=vO hp hk
 unfold itemAt at hc h⊢
 rw[hl,hd]
 split
 ·rename_i h1
  rw[if_pos h1] at hc h
  unfold wordAt at hc h⊢
  split at hc
  ·simp at hc
  ·rename_i h16
   rw[if_neg h16] at h
   simp only at h
   have hu:=(upto_spec zz s k (by omega)).2.1
   have hu0:=(upto_spec zz s k (by omega)).1
   rw[ByteArray.size_extract] at h
   have hup:upto zz s k<=p:=by omega
   rw[kY hp (by omega) hup,if_neg h16,if_neg h16,aG s hp hup]
 ·rename_i h1
  rw[if_neg h1] at hc h
  split
  ·rename_i h2
   rw[if_pos h2] at hc h
   unfold numAt at hc h⊢
   split at hc
   ·simp at hc
   ·rename_i hno
    rw[if_neg hno] at h
    simp only at h
    have hu:=(upto_spec isDigit s k (by omega)).2.1
    have hu0:=(upto_spec isDigit s k (by omega)).1
    rw[ByteArray.size_extract] at h
    have hup:upto isDigit s k<=p:=by omega
    rw[kY hp (by omega) hup,aG s hp hup,if_neg hno,if_neg]
    rintro(h5|h5)
    ·exact hno (.inl h5)
    ·by_cases he:upto isDigit s k<p
     ·rw[(vO hp he).1] at h5
      exact hno (.inr h5)
     ·unfold letterAt at h5
      rw[dif_neg (by rw[aC s hp];exact he)] at h5
      cases h5
  ·rename_i h2
   rw[if_neg h2] at hc h
   split at hc
   ·simp at hc
   ·rename_i hs
    rw[if_neg hs] at h
    simp only at h
    rw[front_sign hp hk h]
theorem aI(s:ByteArray)(i:Nat):yd s i=if skipTo s i<s.size then (if (itemAt s (skipTo s i)).code=0 then itemAt s (skipTo s i)::yd s (skipTo s i+(itemAt s (skipTo s i)).text.size) else [itemAt s (skipTo s i)]) else []:=by
 conv=>lhs;unfold yd cutF
 split
 ·rename_i hi
  split
  ·rename_i hc
   have hp:=item_pos hi hc
   have:=skipTo_ge s (skipTo s i+(itemAt s (skipTo s i)).text.size)
   unfold yd
   rw[zal s s.size (s.size+1) _ (by omega) (by omega)]
  ·rfl
 ·rfl
theorem uA{s:ByteArray}:∀(n i:Nat),s.size-i<=n->∀x∈yd s i,x.code=0->∃k:Nat,x.pos=k/\i<=k/\k<s.size:=by
 intro n
 induction n with
 |zero=>
  intro i hi x hx
  rw[cutFrom_end (by omega)] at hx
  cases hx
 |succ n ih=>
  intro i hi x hx hc
  rw[aI] at hx
  have hge:=skipTo_ge s i
  split at hx
  ·rename_i hlt
   split at hx
   ·rename_i hc0
    have hp:=item_pos hlt hc0
    rcases List.mem_cons.1 hx with rfl|hx
    ·exact⟨_,(item_good hlt hc0).1,hge,hlt⟩
    ·obtain⟨k,h1,h2,h3⟩:=ih _ (by omega) x hx hc
     exact⟨k,h1,by omega,h3⟩
   ·rename_i hc0
    rw[List.mem_singleton.1 hx] at hc
    exact absurd hc hc0
  ·cases hx
theorem front_pieces{s:ByteArray}{p:Nat}(hp:p<=s.size):∀(ts1:List Item) (i:Nat) (x:Item) (ts2:List Item),i<=p->(∀t∈ts1,t.code=0)->x.code=0->x.pos=(p:Int)->yd s i=ts1++x::ts2->yd (s.extract 0 p) i=ts1:=by
 intro ts1
 induction ts1 with
 |nil=>
  intro i x ts2 hi _ hx hpx h
  rw[aI] at h
  split at h
  ·rename_i hlt
   split at h
   ·rename_i hc
    simp only[List.nil_append,List.cons.injEq] at h
    have hpos:=(item_good hlt hc).1
    rw[h.1,hpx] at hpos
    have e:skipTo s i=p:=by omega
    rw[aI,front_skip hp hi (by omega),e,aC s hp,if_neg (by omega)]
   ·rename_i hc
    simp only[List.nil_append,List.cons.injEq] at h
    rw[h.1] at hc
    exact absurd hx hc
  ·simp at h
 |cons y ts1 ih=>
  intro i x ts2 hi hall hx hpx h
  have h0:=h
  rw[aI] at h
  split at h
  ·rename_i hlt
   split at h
   ·rename_i hc
    simp only[List.cons_append,List.cons.injEq] at h
    have hip:=item_pos hlt hc
    obtain⟨k,hk1,hk2,hk3⟩:=uA _ (skipTo s i+(itemAt s (skipTo s i)).text.size) (Nat.le_refl _) x (by rw[h.2];simp) hx
    have hkp:k=p:=by omega
    subst hkp
    rw[aI,front_skip hp hi (by omega),aC s hp,if_pos (by omega),front_item hp (by omega) hc hk2,if_pos hc,h.1]
    congr 1
    rw[<-h.1]
    exact ih _ x ts2 hk2 (fun t ht=>hall t (List.mem_cons_of_mem _ ht)) hx hpx h.2
   ·rename_i hc
    simp only[List.cons_append,List.cons.injEq] at h
    rw[h.1] at hc
    exact absurd (hall y (List.mem_cons_self ..)) hc
  ·simp at h
def LeT(a b:List Tr):Prop:=nodes a<=nodes b/\∀D:Int,(∀n∈flatTs b 0,n.depth<=D)->∀n∈flatTs a 0,n.depth<=D
theorem LeT.refl(a:List Tr):LeT a a:=⟨Nat.le_refl _,fun _ h=>h⟩
theorem LeT.trans{a b c:List Tr}(h:LeT a b)(k:LeT b c):LeT a c:=⟨Nat.le_trans h.1 k.1,fun D hD=>h.2 D (k.2 D hD)⟩
theorem LeT.nil(a:List Tr):LeT [] a:=⟨by rw[kh];exact Nat.zero_le _,fun D _ n hn=>by cases hn⟩
theorem LeT.app{a b c d:List Tr}(h:LeT a b)(k:LeT c d):LeT (a++c) (b++d):=by
 refine⟨by rw[nodes_append,nodes_append];have:=h.1;have:=k.1;omega,fun D hD n hn=>?_⟩
 rw[flatTs_append] at hn hD
 rcases List.mem_append.1 hn with h1|h1
 ·exact h.2 D (fun m hm=>hD m (List.mem_append_left _ hm)) n h1
 ·exact k.2 D (fun m hm=>hD m (List.mem_append_right _ hm)) n h1
theorem LeT.left(a b:List Tr):LeT a (a++b):=by
 have:=(LeT.refl a).app (LeT.nil b)
 rwa [List.append_nil] at this
theorem aN(k:Int)(nm:ByteArray)(x o p:Int)(ks:List Tr):flatTs [zv k nm x o p ks] 0=⟨0,k,nm,x,o,p⟩::deepL (flatTs ks 0):=by
 rw[yC]
 simp[flatTs,zv,flatT]
theorem LeT.leaf{a b:List Tr}(h:LeT a b)(k k':Int)(nm nm':ByteArray)(x x' o o' p p':Int):LeT [zv k nm x o p a] [zv k' nm' x' o' p' b]:=by
 refine⟨by rw[nodes_leaf,nodes_leaf];have:=h.1;omega,fun D hD n hn=>?_⟩
 rw[aN] at hn hD
 have h0:=hD _ (List.mem_cons_self ..)
 rcases List.mem_cons.1 hn with rfl|h1
 ·exact h0
 ·obtain⟨q,hq,rfl⟩:=List.mem_map.1 h1
  have:=h.2 (D-1) (fun m hm=>by
   have:=hD {m with depth:=m.depth+1} (List.mem_cons_of_mem _ (List.mem_map.2 ⟨m,hm,rfl⟩))
   simp only at this
   omega) q hq
  simp only
  omega
theorem LeT.kid{a b:List Tr}(h:LeT a b)(k:Int)(nm:ByteArray)(x o p:Int):LeT a [zv k nm x o p b]:=by
 refine⟨by rw[nodes_leaf];have:=h.1;omega,fun D hD n hn=>?_⟩
 rw[aN] at hD
 have:=h.2 (D-1) (fun m hm=>by
  have:=hD {m with depth:=m.depth+1} (List.mem_cons_of_mem _ (List.mem_map.2 ⟨m,hm,rfl⟩))
  simp only at this
  omega) n hn
 omega
def Endd{α:Type}(le:α->α->Prop)(m:Nat)(e:Int)(a:α)(j:Nat)(x':Option (Res α)):Prop:=m<=j/\match x' with
 |none=>True
 |some (.no q)=>q=e
 |some (.ok a' j')=>j'=m/\le a' a
def CutR{α:Type}(le:α->α->Prop)(m:Nat)(e:Int)(x x':Option (Res α)):Prop:=∀a j,x=some (.ok a j)->Endd le m e a j x'\/(j<m/\(x'=none\/x'=some (.ok a j)))
theorem aO{α:Type}{le:α->α->Prop}{m:Nat}{e:Int}{x':Option (Res α)}:CutR le m e none x':=fun a j h=>by cases h
theorem aQ{α:Type}{le:α->α->Prop}{m:Nat}{e p:Int}{x':Option (Res α)}:CutR le m e (some (.no p)) x':=fun a j h=>by cases h
theorem aJ{α:Type}{le:α->α->Prop}{m:Nat}{e:Int}{a:α}{j:Nat}(hr:le a a)(hj:j<=m):CutR le m e (some (.ok a j)) (some (.ok a j)):=fun a' j' h=>by
 cases h
 by_cases h2:j<m
 ·exact .inr ⟨h2, .inr rfl⟩
 ·exact .inl ⟨by omega,by omega,hr⟩
theorem aD{α β:Type}{leA:α->α->Prop}{leB:β->β->Prop}{m:Nat}{e:Int}{x x':Option (Res α)}{F F':α->Nat->Option (Res β)}(hx:CutR leA m e x x')(hup:∀a k b j,F a k=some (.ok b j)->k<=j)
 (h1:∀a k,k<m->CutR leB m e (F a k) (F' a k)) (h2:∀a a' k b j,leA a' a->m<=k->F a k=some (.ok b j)->m<=j->Endd leB m e b j (F' a' m)):CutR leB m e (andThen x F) (andThen x' F'):=by
 intro b j h
 obtain⟨a,k,hx1,hf⟩:=xR h
 have hkj:=hup a k b j hf
 rcases hx a k hx1 with⟨hmk,hx'⟩|⟨hk,hx'⟩
 ·left
  cases x' with
  |none=>exact⟨by omega,trivial⟩
  |some y=>cases y with
   |no q=>exact⟨by omega,hx'⟩
   |ok a' j'=>
    obtain⟨rfl,hle⟩:=hx'
    exact h2 a a' k b j hle hmk hf (by omega)
 ·rcases hx' with rfl|rfl
  ·by_cases h3:j<m
   ·exact .inr ⟨h3, .inl rfl⟩
   ·exact .inl ⟨by omega,trivial⟩
  ·exact h1 a k hk b j hf
structure Frn (C C':Ctx) (m:Nat):Prop where
 l:C'.l=C.l.take m
 m:m<=C.l.length
namespace Frn
variable {C C':Ctx} {m i:Nat}
theorem len(h:Frn C C' m):C'.l.length=m:=by rw[h.l,List.length_take];have:=h.m;omega
theorem get(h:Frn C C' m)(hi:i<m):C'.l[i]? =C.l[i]? :=by rw[h.l,List.getElem?_take,if_pos hi]
theorem off(h:Frn C C' m)(hi:m<=i):C'.l[i]? =none:=List.getElem?_eq_none (by rw[h.len];exact hi)
theorem comes(h:Frn C C' m)(hi:i<m)(s:ByteArray):comesB C'.l i s=comesB C.l i s:=by unfold comesB;rw[h.get hi]
theorem named(h:Frn C C' m)(hi:i<m):namedB C'.l i=namedB C.l i:=by unfold namedB;rw[h.get hi]
theorem numb(h:Frn C C' m)(hi:i<m):numbB C'.l i=numbB C.l i:=by unfold numbB;rw[h.get hi]
theorem text(h:Frn C C' m)(hi:i<m):textAt C'.l i=textAt C.l i:=by unfold textAt;rw[h.get hi]
theorem num(h:Frn C C' m)(hi:i<m):numAtT C'.l i=numAtT C.l i:=by unfold numAtT;rw[h.get hi]
theorem op(h:Frn C C' m)(hi:i<m)(k:Nat):opAt k C'.l i=opAt k C.l i:=by unfold opAt;rw[h.get hi]
theorem place(h:Frn C C' m)(hi:i<m):placeOf C'.l C'.e i=placeOf C.l C.e i:=by
 obtain⟨t,ht⟩:∃t,C.l[i]? =some t:=⟨_,List.getElem?_eq_getElem (by have:=h.m;omega)⟩
 unfold placeOf
 rw[h.get hi,ht]
theorem comesN(h:Frn C C' m)(s:ByteArray):comesB C'.l m s=false:=by unfold comesB;rw[h.off (Nat.le_refl _)]
theorem namedN(h:Frn C C' m):namedB C'.l m=false:=by unfold namedB;rw[h.off (Nat.le_refl _)]
theorem numbN(h:Frn C C' m):numbB C'.l m=false:=by unfold numbB;rw[h.off (Nat.le_refl _)]
theorem opN(h:Frn C C' m)(k:Nat):opAt k C'.l m=none:=by unfold opAt;rw[h.off (Nat.le_refl _)]
theorem placeN(h:Frn C C' m):placeOf C'.l C'.e m=C'.e:=by unfold placeOf;rw[h.off (Nat.le_refl _)]
theorem wantN(h:Frn C C' m)(s:ByteArray):wantR C' s m=some (.no C'.e):=by unfold wantR;rw[h.comesN,h.placeN];rfl
theorem nameN(h:Frn C C' m):z7 C' m=some (.no C'.e):=by unfold z7;rw[h.namedN,h.placeN];rfl
theorem numberN(h:Frn C C' m):zL C' m=some (.no C'.e):=by unfold zL;rw[h.numbN,h.placeN];rfl
theorem want(h:Frn C C' m)(hi:i<=m)(s:ByteArray):CutR (fun _ _=>True) m C'.e (wantR C s i) (wantR C' s i):=by
 by_cases hm:i<m
 ·unfold wantR
  rw[h.comes hm,h.place hm]
  split
  ·exact aJ trivial hm
  ·exact aQ
 ·obtain rfl:i=m:=by omega
  rw[h.wantN]
  intro a j hj
  exact .inl ⟨by have:=gh hj;omega,rfl⟩
theorem name(h:Frn C C' m)(hi:i<=m):CutR (fun _ _=>True) m C'.e (z7 C i) (z7 C' i):=by
 by_cases hm:i<m
 ·unfold z7
  rw[h.named hm,h.place hm,h.text hm]
  split
  ·exact aJ trivial hm
  ·exact aQ
 ·obtain rfl:i=m:=by omega
  rw[h.nameN]
  intro a j hj
  exact .inl ⟨by have:=name_ok hj;omega,rfl⟩
theorem number(h:Frn C C' m)(hi:i<=m):CutR (fun _ _=>True) m C'.e (zL C i) (zL C' i):=by
 by_cases hm:i<m
 ·unfold zL
  rw[h.numb hm,h.place hm,h.num hm]
  split
  ·exact aJ trivial hm
  ·exact aQ
 ·obtain rfl:i=m:=by omega
  rw[h.numberN]
  intro a j hj
  exact .inl ⟨by have:=number_ok hj;omega,rfl⟩
end Frn
theorem aE{β:Type}{le:β->β->Prop}{m:Nat}{e:Int}{b b':β}{j:Nat}(h:le b' b)(hj:m<=j):Endd le m e b j (some (.ok b' m)):=⟨hj,rfl,h⟩
theorem aB{β:Type}{le:β->β->Prop}{m:Nat}{e:Int}{b:β}{j:Nat}(hj:m<=j):Endd le m e b j none:=⟨hj,trivial⟩
theorem aL{C C':Ctx}{m:Nat}(h:Frn C C' m):∀(f:Nat) (nt:NT),(match nt with| .row _| .unary| .atom| .block=>True|_=>False)->rd C' f nt m=none\/rd C' f nt m=some (.no C'.e):=by
 intro f
 induction f with
 |zero=>intro nt _;exact .inl rfl
 |succ f ih=>
  intro nt hnt
  cases nt with
  |row k=>
   simp only[rd]
   split
   ·exact ih .unary trivial
   ·rcases ih (.row (k+1)) trivial with e|e
    ·rw[e];exact .inl rfl
    ·rw[e];exact .inr rfl
  |unary=>
   simp only[rd,h.comesN]
   exact ih .atom trivial
  |atom=>
   right
   simp only[rd,h.comesN,h.namedN,h.numberN]
   rfl
  |block=>
   right
   simp only[rd,h.wantN]
   rfl
  |rest k l=>exact hnt.elim
  |stmt=>exact hnt.elim
  |stmts=>exact hnt.elim
  |prog=>exact hnt.elim
theorem aM{C C':Ctx}{m:Nat}(h:Frn C C' m):∀(f:Nat) (nt:NT),(match nt with| .stmt| .stmts| .prog=>True|_=>False)->rd C' f nt m=none\/rd C' f nt m=some (.ok [] m):=by
 intro f
 induction f with
 |zero=>intro nt _;exact .inl rfl
 |succ f ih=>
  intro nt hnt
  cases nt with
  |stmt=>
   right
   simp only[rd,h.comesN,h.namedN]
   simp
  |stmts=>
   simp only[rd]
   rcases ih .stmt trivial with e|e
   ·rw[e];exact .inl rfl
   ·rw[e];exact .inr rfl
  |prog=>
   simp only[rd,h.comesN]
   simp only[Bool.false_eq_true,if_false]
   rcases ih .stmts trivial with e|e
   ·rw[e];exact .inl rfl
   ·rw[e]
    right
    simp only[andThen]
    rw[h.len,if_neg (by omega)]
  |row k=>exact hnt.elim
  |rest k l=>exact hnt.elim
  |unary=>exact hnt.elim
  |atom=>exact hnt.elim
  |block=>exact hnt.elim
theorem aK(C:Ctx):∀(f k:Nat) (left:Tr) (i j:Nat) (ts:List Tr),rd C f (.rest k left) i=some (.ok ts j)->LeT [left] ts/\i<=j:=by
 intro f
 induction f with
 |zero=>intro k left i j ts h;cases h
 |succ f ih=>
  intro k left i j ts h
  refine⟨?_,up_rd C (f+1) _ i i (Nat.le_refl _) ts j h⟩
  simp only[rd] at h
  split at h
  ·cases h;exact LeT.refl _
  ·obtain⟨a,k1,h1,h2⟩:=xR h
   split at h2
   ·rename_i t
    split at h2
    ·cases h2
     exact(LeT.left [left] [t]).kid ..
    ·exact((LeT.left [left] [t]).kid _ _ _ _ _).trans (ih _ _ _ _ _ h2).1
   ·cases h2
open Go.RowKit
theorem upU{p:Prop}(h:p:=by repeat' first|exact up_none|exact up_no|(refine up_then ?_ fun _ _ _=>?_)|exact up_want (by omega)|exact up_name (by omega)|exact up_number (by omega)|exact up_rd _ _ _ _ _ (by omega)|exact up_ok (by omega)|split):p:=h
theorem upT{p:Prop}(h:p:=by intro _ _;exact upU):p:=h
theorem xu{α β:Type}{leA:α->α->Prop}{leB:β->β->Prop}{m:Nat}{e:Int}{x x':Option (Res α)}{G:α->β}(hx:CutR leA m e x x')(hG:∀a a',leA a' a->leB (G a') (G a))(hr:∀b,leB b b):CutR leB m e (andThen x fun ts j=>some (.ok (G ts) j)) (andThen x' fun ts j=>some (.ok (G ts) j)):=
 aD hx (fun a k b j h=>by cases h;exact Nat.le_refl _) (fun a k hk=>aJ (hr _) (by omega)) fun a a' k b j hle hm h hj=>by cases h;exact aE (hG _ _ hle) hj
theorem aH{α β:Type}{leA:α->α->Prop}{leB:β->β->Prop}{m:Nat}{e:Int}{x x':Option (Res α)}{F F':α->Nat->Option (Res β)}(hx:CutR leA m e x x')(hup:∀a k,Up k (F a k))(h1:∀a k,k<m->CutR leB m e (F a k) (F' a k))(hN:∀a',F' a' m=some (.no e)):CutR leB m e (andThen x F) (andThen x' F'):=
 aD hx (fun a k b j h=>hup a k b j h) h1 fun a a' k b j hle hm h hj=>by rw[hN];exact⟨hj,rfl⟩
theorem zak{α:Type}{le:α->α->Prop}{m:Nat}{e:Int}{x:Option (Res α)}(h:Up m x):CutR le m e x (some (.no e)):=fun a j hj=> .inl ⟨h a j hj,rfl⟩
theorem jf{C C':Ctx}{m:Nat}(h:Frn C C' m){α:Type}{leA:α->α->Prop}{x x':Option (Res α)}(s:ByteArray){G:α->List Tr}(hx:CutR leA m C'.e x x'):CutR LeT m C'.e (andThen x fun ts j=>andThen (wantR C s j) fun _ j=>some (.ok (G ts) j)) (andThen x' fun ts j=>andThen (wantR C' s j) fun _ j=>some (.ok (G ts) j)):=
 aH hx upT (fun a k hk=>aD (h.want (by omega) s) (fun a k b j h=>by cases h;exact Nat.le_refl _) (fun _ j hj=>aJ (LeT.refl _) (by omega)) fun a a' k b j hle hm h hj=>by cases h;exact aE (LeT.refl _) hj) fun a'=>by rw[h.wantN];rfl
theorem zha{C C':Ctx}{m:Nat}(h:Frn C C' m):∀(f:Nat) (nt:NT) (i:Nat),i<=m->CutR LeT m C'.e (rd C f nt i) (rd C' f nt i):=by
 intro f
 induction f with
 |zero=>intro nt i hi;exact aO
 |succ f ih=>
  intro nt i hi
  by_cases him:i<m
  ·have hc:=fun s=>h.comes him s
   have hnm:=h.named him
   have hpl:=h.place him
   have htx:=h.text him
   cases nt with
   |row k=>
    simp only[rd]
    split
    ·exact ih .unary i hi
    ·refine aD (ih (.row (k+1)) i hi) (fun a k1 b j hf=>?_) (fun a k1 hk=>?_) fun a a' k1 b j hle hm hf hj=>?_
     ·split at hf
      ·exact(aK C _ _ _ _ _ _ hf).2
      ·cases hf
     ·match a with
      |[]=>exact aO
      |[t]=>exact ih (.rest k t) k1 (by omega)
      |_::_::_=>exact aO
     ·split at hf
      ·rename_i t
       have hb:=(aK C _ _ _ _ _ _ hf).1
       split
       ·rename_i t'
        cases f with
        |zero=>exact aB hj
        |succ f=>
         simp only[rd,h.opN]
         exact aE (hle.trans hb) hj
       ·exact aB hj
      ·cases hf
   |rest k left=>
    simp only[rd,h.op him k,hpl]
    cases opAt k C.l i with
    |none=>exact aJ (LeT.refl _) hi
    |some op=>
     simp only
     refine aD (ih (.row (k+1)) (i+1) him) (fun a k1 b j hf=>?_) (fun a k1 hk=>?_) fun a a' k1 b j hle hm hf hj=>?_
     ·split at hf
      ·split at hf
       ·cases hf;exact Nat.le_refl _
       ·exact(aK C _ _ _ _ _ _ hf).2
      ·cases hf
     ·match a with
      |[]=>exact aO
      |[t]=>
       simp only
       split
       ·exact aJ (LeT.refl _) (by omega)
       ·exact ih _ k1 (by omega)
      |_::_::_=>exact aO
     ·split at hf
      ·rename_i t
       split
       ·rename_i t'
        have hlf:=((LeT.refl [left]).app hle).leaf 15 15 zD zD 0 0 op op (placeOf C.l C.e i) (placeOf C.l C.e i)
        split at hf
        ·rename_i hk2
         rw[if_pos hk2]
         cases hf
         exact aE hlf hj
        ·rename_i hk2
         rw[if_neg hk2]
         have hb:=(aK C _ _ _ _ _ _ hf).1
         cases f with
         |zero=>exact aB hj
         |succ f=>
          simp only[rd,h.opN]
          exact aE (hlf.trans hb) hj
       ·exact aB hj
      ·cases hf
   |unary=>
    simp only[rd,hc,hpl]
    split
    ·exact xu (ih .unary (i+1) him) (fun a a' hle=>hle.leaf ..) LeT.refl
    ·split
     ·exact xu (ih .unary (i+1) him) (fun a a' hle=>hle.leaf ..) LeT.refl
     ·exact ih .atom i hi
   |atom=>
    simp only[rd,hc,hnm,hpl,htx]
    split
    ·exact aJ (LeT.refl _) him
    ·split
     ·exact aJ (LeT.refl _) him
     ·split
      ·exact jf h _ (ih (.row 0) (i+1) him)
      ·split
       ·by_cases hi1:i+1<m
        ·rw[h.comes hi1]
         split
         ·exact jf h _ (ih (.row 0) (i+2) (by omega))
         ·exact aJ (LeT.refl _) him
        ·have e:i+1=m:=by omega
         simp only[show comesB C'.l (i+1) ⟨#[91]⟩=false from by rw[e];exact h.comesN _,Bool.false_eq_true,if_false]
         split
         ·intro b j hb
          left
          obtain⟨ts,k,h1,h2⟩:=xR hb
          obtain⟨_,k2,h3,h4⟩:=xR h2
          cases h4
          have hk:=up_rd C f (.row 0) (i+2) (i+2) (Nat.le_refl _) ts k h1
          have hk2:=gh h3
          rw[e]
          exact aE ((LeT.nil ts).leaf ..) (by omega)
         ·exact aJ (LeT.refl _) him
       ·exact xu (h.number hi) (fun a a' _=>(LeT.refl _).leaf ..) LeT.refl
   |stmt=>
    simp only[rd,hc,hnm,hpl,htx]
    split
    ·by_cases hi1:i+1<m
     ·rw[h.comes hi1]
      split
      ·refine aH (ih (.row 0) (i+2) (by omega)) upT (fun ts k hk=>?_) fun a'=>by rw[h.wantN];rfl
       refine aH (h.want (by omega) _) upT (fun _ k2 hk2=>?_) fun a'=>by rw[h.wantN];rfl
       refine aD (h.want (by omega) _) (fun a k b j hf=>(upU:Up k _) b j hf) (fun _ k3 hk3=>jf h _ (ih (.row 0) k3 (by omega))) fun a a' k b j hle hm hf hj=>?_
       rcases aL h f (.row 0) trivial with e|e
       ·rw[e];exact aB hj
       ·rw[e];exact⟨hj,rfl⟩
      ·refine aD (h.want (by omega) _) (fun a k b j hf=>(upU:Up k _) b j hf) (fun _ k3 hk3=>jf h _ (ih (.row 0) k3 (by omega))) fun a a' k b j hle hm hf hj=>?_
       rcases aL h f (.row 0) trivial with e|e
       ·rw[e];exact aB hj
       ·rw[e];exact⟨hj,rfl⟩
     ·have e:i+1=m:=by omega
      simp only[show comesB C'.l (i+1) ⟨#[91]⟩=false from by rw[e];exact h.comesN _,Bool.false_eq_true,if_false]
      rw[e,h.wantN]
      split
      ·exact zak upU
      ·exact zak upU
    ·split
     ·refine aH (h.name him) upT (fun s k hk=>?_) fun a'=>by rw[h.wantN];rfl
      exact xu (h.want (by omega) _) (fun _ _ _=>LeT.refl _) LeT.refl
     ·split
      ·exact jf h _ (ih (.row 0) (i+1) him)
      ·split
       ·exact xu (h.want him _) (fun _ _ _=>LeT.refl _) LeT.refl
       ·split
        ·refine aD (ih (.row 0) (i+1) him) (fun a k b j hf=>(upU:Up k _) b j hf) (fun ts k hk=>?_) fun a a' k b j hle hm hf hj=>?_
         ·refine aD (ih .block k (by omega)) (fun a k b j hf=>(upU:Up k _) b j hf) (fun us k2 hk2=>?_) fun a a' k b j hle hm hf hj=>?_
          ·rw[h.comes hk2]
           split
           ·exact xu (ih .block (k2+1) hk2) (fun a a' hle=>((LeT.refl _).app hle).leaf ..) LeT.refl
           ·exact aJ (LeT.refl _) (by omega)
          ·rw[h.comesN,if_neg (by simp)]
           split at hf
           ·obtain⟨vs,k3,_,h4⟩:=xR hf
            cases h4
            exact aE ((((LeT.refl ts).app hle).trans (LeT.left _ vs)).leaf ..) hj
           ·cases hf
            exact aE (((LeT.refl ts).app hle).leaf ..) hj
         ·rcases aL h f .block trivial with e|e
          ·rw[e];exact aB hj
          ·rw[e];exact⟨hj,rfl⟩
        ·split
         ·refine aD (ih (.row 0) (i+1) him) (fun a k b j hf=>(upU:Up k _) b j hf) (fun ts k hk=>?_) fun a a' k b j hle hm hf hj=>?_
          ·exact xu (ih .block k (by omega)) (fun a a' hle=>((LeT.refl _).app hle).leaf ..) LeT.refl
          ·rcases aL h f .block trivial with e|e
           ·rw[e];exact aB hj
           ·rw[e];exact⟨hj,rfl⟩
         ·exact aJ (LeT.refl _) hi
   |stmts=>
    simp only[rd]
    refine aD (ih .stmt i hi) (fun a k b j hf=>(upU:Up k _) b j hf) (fun ts k hk=>?_) fun a a' k b j hle hm hf hj=>?_
    ·split
     ·exact aJ (LeT.refl _) (by omega)
     ·exact xu (ih .stmts k (by omega)) (fun x x' hle=>(LeT.refl _).app hle) LeT.refl
    ·split
     ·exact aE (LeT.nil _) hj
     ·rename_i hne
      rcases aM h f .stmts trivial with e|e
      ·rw[e];exact aB hj
      ·rw[e]
       split at hf
       ·rename_i ha
        have:a=[]:=by simpa using ha
        subst this
        have h0:=hle.1
        rw[kh] at h0
        have:=gZ (ts:=a') (by rintro rfl;simp at hne)
        omega
       ·obtain⟨us,k3,_,h4⟩:=xR hf
        cases h4
        simp only[andThen,List.append_nil]
        exact aE (hle.trans (LeT.left _ us)) hj
   |block=>
    simp only[rd,hpl]
    refine aD (h.want hi _) (fun a k b j hf=>(upU:Up k _) b j hf) (fun _ k hk=>?_) fun a a' k b j hle hm hf hj=>?_
    ·exact jf h _ (ih .stmts k (by omega))
    ·rcases aM h f .stmts trivial with e|e
     ·rw[e];exact aB hj
     ·rw[e]
      simp only[andThen]
      rw[h.wantN]
      exact⟨hj,rfl⟩
   |prog=>
    simp only[rd,hc,hpl]
    have hP:∀(l:Tr) (k b j),andThen (rd C f .prog k) (fun us j=>some (.ok (l::us) j))=some (.ok b j)->m<=j->Endd LeT m C'.e b j (andThen (rd C' f .prog m) fun us j=>some (.ok (l::us) j)):=fun l k b j hf hj=>by
     obtain⟨us,k3,_,h4⟩:=xR hf
     cases h4
     rcases aM h f .prog trivial with e|e
     ·rw[e];exact aB hj
     ·rw[e]
      exact aE (LeT.left [l] us) hj
    split
    ·refine aH (h.name him) upT (fun s k hk=>?_) fun a'=>by rw[h.wantN];rfl
     refine aD (h.want (by omega) _) (fun a k b j hf=>(upU:Up k _) b j hf) (fun _ k2 hk2=>?_) fun a a' k b j hle hm hf hj=>hP _ k b j hf hj
     exact xu (ih .prog k2 (by omega)) (fun x x' hle=>(LeT.refl [_]).app hle) LeT.refl
    ·split
     ·refine aH (h.name him) upT (fun s k hk=>?_) fun a'=>by rw[h.wantN];rfl
      refine aH (h.want (by omega) _) upT (fun _ k2 hk2=>?_) fun a'=>by rw[h.numberN];rfl
      refine aH (h.number (by omega)) upT (fun x k3 hk3=>?_) fun a'=>by rw[h.wantN];rfl
      refine aH (h.want (by omega) _) upT (fun _ k4 hk4=>?_) fun a'=>by rw[h.wantN];rfl
      refine aD (h.want (by omega) _) (fun a k b j hf=>(upU:Up k _) b j hf) (fun _ k5 hk5=>?_) fun a a' k b j hle hm hf hj=>hP _ k b j hf hj
      exact xu (ih .prog k5 (by omega)) (fun x x' hle=>(LeT.refl [_]).app hle) LeT.refl
     ·refine aD (ih .stmts i hi) (fun a k b j hf=>?_) (fun ts k hk=>?_) fun a a' k b j hle hm hf hj=>?_
      ·split at hf
       ·cases hf
       ·cases hf;exact Nat.le_refl _
      ·rw[if_pos (show k<C.l.length by have:=h.m;omega)]
       exact aQ
      ·split at hf
       ·cases hf
       ·cases hf
        rw[h.len,if_neg (by omega)]
        exact aE hle hj
  ·obtain rfl:i=m:=by omega
   intro b j hb
   left
   cases nt with
   |rest k left=>
    have hh:=aK C _ _ _ _ _ _ hb
    simp only[rd,h.opN]
    exact aE hh.1 hh.2
   |row k=>
    have hj:=up_rd C (f+1) _ i i (Nat.le_refl _) b j hb
    rcases aL h (f+1) (.row k) trivial with e|e<;>rw[e]
    ·exact aB hj
    ·exact⟨hj,rfl⟩
   |unary=>
    have hj:=up_rd C (f+1) _ i i (Nat.le_refl _) b j hb
    rcases aL h (f+1) .unary trivial with e|e<;>rw[e]
    ·exact aB hj
    ·exact⟨hj,rfl⟩
   |atom=>
    have hj:=up_rd C (f+1) _ i i (Nat.le_refl _) b j hb
    rcases aL h (f+1) .atom trivial with e|e<;>rw[e]
    ·exact aB hj
    ·exact⟨hj,rfl⟩
   |block=>
    have hj:=up_rd C (f+1) _ i i (Nat.le_refl _) b j hb
    rcases aL h (f+1) .block trivial with e|e<;>rw[e]
    ·exact aB hj
    ·exact⟨hj,rfl⟩
   |stmt=>
    have hj:=up_rd C (f+1) _ i i (Nat.le_refl _) b j hb
    rcases aM h (f+1) .stmt trivial with e|e<;>rw[e]
    ·exact aB hj
    ·exact aE (LeT.nil _) hj
   |stmts=>
    have hj:=up_rd C (f+1) _ i i (Nat.le_refl _) b j hb
    rcases aM h (f+1) .stmts trivial with e|e<;>rw[e]
    ·exact aB hj
    ·exact aE (LeT.nil _) hj
   |prog=>
    have hj:=up_rd C (f+1) _ i i (Nat.le_refl _) b j hb
    rcases aM h (f+1) .prog trivial with e|e<;>rw[e]
    ·exact aB hj
    ·exact aE (LeT.nil _) hj
def PlT(C:Ctx)(ts:List Tr):Prop:=∀n∈flatTs ts 0,∃k,k<C.l.length/\n.at_=placeOf C.l C.e k
theorem PlT.nil(C:Ctx):PlT C []:=fun n h=>by cases h
theorem PlT.app{C:Ctx}{a b:List Tr}(h:PlT C a)(k:PlT C b):PlT C (a++b):=by
 intro n hn
 rw[flatTs_append] at hn
 rcases List.mem_append.1 hn with h1|h1
 ·exact h n h1
 ·exact k n h1
theorem PlT.leaf{C:Ctx}{a:List Tr}(h:PlT C a){i:Nat}(hi:i<C.l.length)(k:Int)(nm:ByteArray)(x o:Int):PlT C [zv k nm x o (placeOf C.l C.e i) a]:=by
 intro n hn
 rw[aN] at hn
 rcases List.mem_cons.1 hn with rfl|h1
 ·exact⟨i,hi,rfl⟩
 ·obtain⟨q,hq,rfl⟩:=List.mem_map.1 h1
  exact h q hq
theorem PlT.at{C:Ctx}{ts:List Tr}(h:PlT C ts)(d:Int):∀n∈flatTs ts d,∃k,k<C.l.length/\n.at_=placeOf C.l C.e k:=by
 have up:∀D:Nat,∀n∈flatTs ts ((D:Int)),∃k,k<C.l.length/\n.at_=placeOf C.l C.e k:=by
  intro D
  induction D with
  |zero=>exact h
  |succ D ih=>
   intro n hn
   have e:((D+1:Nat):Int)=(D:Int)+1:=by omega
   rw[e,<-yC] at hn
   obtain⟨q,hq,rfl⟩:=List.mem_map.1 hn
   exact ih q hq
 have down:∀D:Nat,∀n∈flatTs ts (-(D:Int)),∃k,k<C.l.length/\n.at_=placeOf C.l C.e k:=by
  intro D
  induction D with
  |zero=>exact h
  |succ D ih=>
   intro n hn
   have e: -((D:Nat):Int)= -((D+1:Nat):Int)+1:=by omega
   have:=ih {n with depth:=n.depth+1} (by rw[e,<-yC];exact List.mem_map.2 ⟨n,hn,rfl⟩)
   exact this
 rcases Int.le_total 0 d with hd|hd
 ·obtain⟨D,rfl⟩:=Int.eq_ofNat_of_zero_le hd;exact up D
 ·obtain⟨D,hD⟩:=Int.eq_ofNat_of_zero_le (show 0<= -d by omega)
  have:d= -(D:Int):=by omega
  rw[this]
  exact down D
def Pl(C:Ctx)(x:Option (Res (List Tr))):Prop:=∀ts j,x=some (.ok ts j)->PlT C ts
theorem aA{C:Ctx}{α:Type}{x:Option (Res α)}{F:α->Nat->Option (Res (List Tr))}(h:∀a k,x=some (.ok a k)->Pl C (F a k)):Pl C (andThen x F):=by
 intro ts j hb
 obtain⟨a,k,h1,h2⟩:=xR hb
 exact h a k h1 ts j h2
theorem aF{C:Ctx}{ts:List Tr}{j:Nat}(h:PlT C ts):Pl C (some (.ok ts j)):=fun a k hb=>by cases hb;exact h
theorem pl_no{C:Ctx}{p:Int}:Pl C (some (.no p)):=fun a k hb=>by cases hb
theorem aP{C:Ctx}:Pl C none:=fun a k hb=>by cases hb
theorem numb_some{C:Ctx}{i k:Nat}{x:Int}(h:zL C i=some (.ok x k)):i<C.l.length:=by
 unfold zL at h
 split at h
 ·rename_i hn;exact numb_lt hn
 ·cases h
theorem want_some{C:Ctx}{s:ByteArray}{i k:Nat}{x:Unit}(h:wantR C s i=some (.ok x k)):i<C.l.length:=by
 unfold wantR at h
 split at h
 ·rename_i hn;exact comes_lt hn
 ·cases h
theorem rd_pl(C:Ctx):∀(f:Nat) (nt:NT) (i:Nat),(∀k left,nt= .rest k left->PlT C [left])->Pl C (rd C f nt i):=by
 intro f
 induction f with
 |zero=>intro nt i _;exact aP
 |succ f ih=>
  intro nt i hl
  have R:∀nt i,(∀k left,nt≠ .rest k left)->∀ts j,rd C f nt i=some (.ok ts j)->PlT C ts:=fun nt i hn=>ih nt i fun k left e=>absurd e (hn k left)
  cases nt with
  |row k=>
   simp only[rd]
   split
   ·exact R .unary i (by simp)
   ·refine aA fun a k1 h1=>?_
    have ha:=R (.row (k+1)) i (by simp) a k1 h1
    split
    ·rename_i t
     exact ih _ _ fun k' left e=>by cases e;exact ha
    ·exact aP
  |rest k left=>
   have hleft:=hl k left rfl
   simp only[rd]
   cases ho:opAt k C.l i with
   |none=>exact aF hleft
   |some op=>
    simp only
    have hlt:=gy ho
    refine aA fun a k1 h1=>?_
    have ha:=R (.row (k+1)) (i+1) (by simp) a k1 h1
    split
    ·rename_i t
     have hn:=(hleft.app ha).leaf hlt 15 zD 0 op
     split
     ·exact aF hn
     ·exact ih _ _ fun k' left' e=>by cases e;exact hn
    ·exact aP
  |unary=>
   simp only[rd]
   split
   ·rename_i h;exact aA fun a k1 h1=>aF ((R .unary _ (by simp) a k1 h1).leaf (comes_lt h) _ _ _ _)
   ·split
    ·rename_i h;exact aA fun a k1 h1=>aF ((R .unary _ (by simp) a k1 h1).leaf (comes_lt h) _ _ _ _)
    ·exact R .atom i (by simp)
  |atom=>
   simp only[rd]
   split
   ·rename_i h;exact aF ((PlT.nil C).leaf (comes_lt h) _ _ _ _)
   ·split
    ·rename_i h;exact aF ((PlT.nil C).leaf (comes_lt h) _ _ _ _)
    ·split
     ·exact aA fun a k1 h1=>aA fun _ _ _=>aF (R (.row 0) _ (by simp) a k1 h1)
     ·split
      ·rename_i h
       split
       ·exact aA fun a k1 h1=>aA fun _ _ _=>aF ((R (.row 0) _ (by simp) a k1 h1).leaf (named_lt h) _ _ _ _)
       ·exact aF ((PlT.nil C).leaf (named_lt h) _ _ _ _)
      ·exact aA fun a k1 h1=>aF ((PlT.nil C).leaf (numb_some h1) _ _ _ _)
  |stmt=>
   simp only[rd]
   split
   ·rename_i h
    split
    ·exact aA fun a k1 h1=>aA fun _ _ _=>aA fun _ _ _=>aA fun b k2 h2=>aA fun _ _ _=>aF (((R (.row 0) _ (by simp) a k1 h1).app (R (.row 0) _ (by simp) b k2 h2)).leaf (named_lt h) _ _ _ _)
    ·exact aA fun _ _ _=>aA fun b k2 h2=>aA fun _ _ _=>aF ((R (.row 0) _ (by simp) b k2 h2).leaf (named_lt h) _ _ _ _)
   ·split
    ·rename_i h;exact aA fun _ _ _=>aA fun _ _ _=>aF ((PlT.nil C).leaf (comes_lt h) _ _ _ _)
    ·split
     ·rename_i h;exact aA fun b k2 h2=>aA fun _ _ _=>aF ((R (.row 0) _ (by simp) b k2 h2).leaf (comes_lt h) _ _ _ _)
     ·split
      ·rename_i h;exact aA fun _ _ _=>aF ((PlT.nil C).leaf (comes_lt h) _ _ _ _)
      ·split
       ·rename_i h
        refine aA fun a k1 h1=>aA fun b k2 h2=>?_
        have hab:=(R (.row 0) _ (by simp) a k1 h1).app (R .block _ (by simp) b k2 h2)
        split
        ·exact aA fun c k3 h3=>aF ((hab.app (R .block _ (by simp) c k3 h3)).leaf (comes_lt h) _ _ _ _)
        ·exact aF (hab.leaf (comes_lt h) _ _ _ _)
       ·split
        ·rename_i h
         exact aA fun a k1 h1=>aA fun b k2 h2=>aF (((R (.row 0) _ (by simp) a k1 h1).app (R .block _ (by simp) b k2 h2)).leaf (comes_lt h) _ _ _ _)
        ·exact aF (PlT.nil C)
  |stmts=>
   simp only[rd]
   refine aA fun a k1 h1=>?_
   split
   ·exact aF (PlT.nil C)
   ·exact aA fun b k2 h2=>aF ((R .stmt _ (by simp) a k1 h1).app (R .stmts _ (by simp) b k2 h2))
  |block=>
   simp only[rd]
   exact aA fun _ _ h0=>aA fun b k2 h2=>aA fun _ _ _=>aF ((R .stmts _ (by simp) b k2 h2).leaf (want_some h0) _ _ _ _)
  |prog=>
   simp only[rd]
   split
   ·rename_i h
    exact aA fun s _ _=>aA fun _ _ _=>aA fun b k2 h2=>aF (((PlT.nil C).leaf (comes_lt h) 0 s 0 0).app (R .prog _ (by simp) b k2 h2))
   ·split
    ·rename_i h
     exact aA fun s _ _=>aA fun _ _ _=>aA fun x _ _=>aA fun _ _ _=>aA fun _ _ _=>aA fun b k2 h2=>aF (((PlT.nil C).leaf (comes_lt h) 1 s x 0).app (R .prog _ (by simp) b k2 h2))
    ·refine aA fun a k1 h1=>?_
     split
     ·exact pl_no
     ·exact aF (R .stmts _ (by simp) a k1 h1)
theorem ziS{l:List Item}(h:(badOf l).1=0):∀x∈l,x.code=0:=by
 unfold badOf at h
 have key:∀(l:List Item) (a:Int×Int),(l.foldl (fun acc x=>if x.code=0 then acc else (x.code,x.place)) a).1=0->a.1=0/\∀x∈l,x.code=0:=by
  intro l
  induction l with
  |nil=>intro a h;exact⟨h,fun x hx=>by cases hx⟩
  |cons y l ih=>
   intro a h
   rw[List.foldl_cons] at h
   obtain⟨h1,h2⟩:=ih _ h
   by_cases hy:y.code=0
   ·rw[if_pos hy] at h1
    refine⟨h1,fun x hx=>?_⟩
    rcases List.mem_cons.1 hx with rfl|hx
    ·exact hy
    ·exact h2 x hx
   ·rw[if_neg hy] at h1
    exact absurd h1 hy
 exact(key l _ h).2
theorem outOf_le{a b:List Tr}(h:LeT a b){l:List Nd}(hb:ym (flatTs b 1)= .tree l):∃l',ym (flatTs a 1)= .tree l':=by
 unfold ym at hb
 split at hb
 ·cases hb
 ·rename_i hm
  split at hb
  ·cases hb
  ·rename_i hf
   rw[List.find?_eq_none] at hf
   refine⟨_,outOf_tree ?_ fun i n hi hn hd=>?_⟩
   ·rw[flat1_length] at hm⊢
    have:=h.1
    omega
   ·have:=h.2 23 (fun n hn=>by
     have hm1:{n with depth:=n.depth+1}∈flatTs b 1:=by
      have:=yC 0 b
      rw[show(0:Int)+1=1 from rfl] at this
      rw[<-this]
      exact List.mem_map.2 ⟨n,hn,rfl⟩
     have:=hf _ hm1
     simp only[decide_eq_true_eq] at this
     omega)
    have hmem:=List.mem_of_getElem? hn
    have e:=yC 0 a
    rw[show(0:Int)+1=1 from rfl] at e
    rw[<-e] at hmem
    obtain⟨q,hq,rfl⟩:=List.mem_map.1 hmem
    have:=this q hq
    simp only at hd
    omega
theorem zae{s:ByteArray}{l:List Nd}(h:zN s (.tree l)){n:Nd}(hn:n∈l):∃p:Nat,n.at_=p/\p<=s.size/\∀o,zN (s.extract 0 p) o->(∃l',o= .tree l')\/o= .fault 30 p:=by
 unfold zN at h
 split at h
 ·cases h
 rename_i h1
 split at h
 ·cases h
 rename_i h2
 have hb:(badOf (pieces s)).1=0:=by simpa using h2
 have hall:=ziS hb
 have hg:=(good_all hall).1
 obtain⟨f,r,hr,ho⟩:=h
 cases r with
 |no q=>cases ho
 |ok ts k=>
  have ho':ym (flatTs ts 1)= .tree l:=ho.symm
  have hl:flatTs ts 1=l:=by
   unfold ym at ho'
   split at ho'
   ·cases ho'
   ·split at ho'
    ·cases ho'
    ·cases ho';rfl
  obtain⟨m,hm,hpl⟩:=(rd_pl (ctx0 s) f .prog 0 (fun k left e=>by cases e) ts k hr).at 1 n (by rw[hl];exact hn)
  have hm':m<(pieces s).length:=by have:m<(zb (pieces s)).length:=hm;rwa [hg] at this
  obtain⟨x,hx⟩:∃x,(pieces s)[m]? =some x:=⟨_,List.getElem?_eq_getElem hm'⟩
  have hxm:=List.mem_of_getElem? hx
  have hxc:=hall x hxm
  have hxpos:placeOf (ctx0 s).l (ctx0 s).e m=x.pos:=by
   show(match (zb (pieces s))[m]? with|some t=>t.pos|none=>_)=_
   rw[hg,hx]
  obtain⟨p,hp1,_,hp2⟩:=uA _ 0 (Nat.le_refl _) x (by rw[<-qX];exact hxm) hxc
  refine⟨p,by rw[hpl,hxpos,hp1],by omega,fun o ho2=>?_⟩
  have hsplit:pieces s=(pieces s).take m++x::(pieces s).drop (m+1):=by
   have e1:=List.getElem?_eq_getElem hm'
   rw[hx] at e1
   have e2:(pieces s).drop m=x::(pieces s).drop (m+1):=by
    rw[List.drop_eq_getElem_cons hm',Option.some.inj e1]
   rw[<-e2,List.take_append_drop]
  have ht:pieces (s.extract 0 p)=(pieces s).take m:=by
   rw[qX]
   exact front_pieces (by omega) _ 0 x _ (Nat.zero_le _) (fun t ht=>hall t (List.mem_of_mem_take ht)) hxc hp1 (by rw[<-qX];exact hsplit)
  have hall2:∀t∈pieces (s.extract 0 p),t.code=0:=fun t hx=>hall t (by rw[ht] at hx;exact List.mem_of_mem_take hx)
  obtain⟨g1,g2⟩:=good_all hall2
  have hsz:(s.extract 0 p).size=p:=aC s (by omega)
  unfold zN at ho2
  rw[if_neg (by rw[hsz];omega),if_neg (by rw[g2];simp)] at ho2
  obtain⟨f',r',hr',rfl⟩:=ho2
  have hF:Frn (ctx0 s) (ctx0 (s.extract 0 p)) m:=⟨by show zb (pieces (s.extract 0 p))=(zb (pieces s)).take m;rw[g1,ht,hg],by show m<=(zb (pieces s)).length;rw[hg];omega⟩
  have hcut:=zha hF (max f f') .prog 0 (Nat.zero_le _) ts k (wu _ (Nat.le_max_left f f') .prog 0 _ hr)
  have hr2:=wu _ (Nat.le_max_right f f') .prog 0 _ hr'
  rw[hr2] at hcut
  have he:(ctx0 (s.extract 0 p)).e=p:=by show(((s.extract 0 p).size:Nat):Int)=p;rw[hsz]
  rcases hcut with⟨_,hc⟩|⟨_,hc⟩
  ·cases r' with
   |no q=>
    right
    have hq:q=_:=hc
    rw[hq,he]
    rfl
   |ok ts' j'=>
    obtain⟨_,hle⟩:=hc
    exact .inl (outOf_le hle ho')
  ·rcases hc with hc|hc
   ·cases hc
   ·cases hc
    exact .inl ⟨l,ho'⟩
theorem rest_any(n:Int)(m:Nat)(hm:0<m)(hm2:m<=9223372036854775807)(w:World):
 Calls Tryz.prog 23 #[.int .i64 n, .int .i64 m] w fun e w'=>(∃k:Nat,k<m/\e= .returned (.int .i64 k))/\w'=w:=by
 have h2:(Int.tmod n m).natAbs<m:=by rw[Int.natAbs_tmod];exact Nat.mod_lt _ (by simpa using hm)
 have h1: -(m:Int)<Int.tmod n m/\Int.tmod n m<m:=by omega
 clear h2
 have hz:((m:Int)==0)=false:=by simp;omega
 generalize hr:Int.tmod n m=r at h1
 by_cases h0:r<0
 ·go_enter Tryz.func23,Tryz.ntmps23
  go_wp2
  go_ret
  exact⟨⟨(r+m).toNat,by omega,by show Ending.returned (Value.int IntKind.i64 (r+m))=_;rw[Int.toNat_of_nonneg (by omega)]⟩,rfl⟩
 ·go_enter Tryz.func23,Tryz.ntmps23
  go_wp2
  go_ret
  exact⟨⟨r.toNat,by omega,by show Ending.returned (Value.int IntKind.i64 r)=_;rw[Int.toNat_of_nonneg (by omega)]⟩,rfl⟩
open Go.RowKit Go.Bsd
noncomputable def zaB:Code->Code| .cond _ x _=>x|c=>c
noncomputable def pf0:Code:=Tryz.f7.body.getD .skip
noncomputable def pf1:Code:=seqR (seqR pf0)
noncomputable def pf2:Code:=seqR pf1
noncomputable def pfA:Code:=zaB (seqR (seqL pf2))
noncomputable def pfA1:Code:=seqR pfA
noncomputable def pfB:Code:=seqR pf2
noncomputable def pfB1:Code:=seqR pfB
noncomputable def pfB2:Code:=seqR pfB1
theorem zjm:pf0= .seq (seqL pf0) (.seq (.seq (seqL (seqL (seqR pf0))) (seqR (seqL (seqR pf0)))) pf1):=rfl
theorem zjl:pf1= .seq (seqL pf1) pf2:=rfl
theorem zjk:∃c,pf2= .seq (.seq (seqL (seqL pf2)) (.cond c pfA .skip)) pfB/\c= .tmp 30:=⟨_,rfl,rfl⟩
theorem zjj:pfA= .seq (seqL pfA) pfA1:=rfl
theorem zji:pfB= .seq (seqL pfB) pfB1:=rfl
theorem ziq:pfB1= .seq (seqL pfB1) pfB2:=rfl
theorem zip:∃id,seqL (seqL (seqR pf0))= .region id (zm (seqL (seqL (seqR pf0)))) false:=⟨_,rfl⟩
theorem zio:∃id,seqL pfA= .region id (zm (seqL pfA)) false:=⟨_,rfl⟩
theorem zin:∃id,seqL pfB1= .region id (zm (seqL pfB1)) false:=⟨_,rfl⟩
theorem uB{s:ByteArray}{o:POut}(h:zN s o)(hc:codeOf o=0):∃l,o= .tree l:=by
 cases o with
 |tree l=>exact⟨l,rfl⟩
 |fault k p=>
  exfalso
  have hk:k=0:=hc
  unfold zN at h
  split at h
  ·cases h;omega
  ·split at h
   ·rename_i h2
    simp only[POut.fault.injEq] at h
    exact h2 (h.1.symm.trans hk)
   ·obtain⟨f,r,_,e⟩:=h
    cases r with
    |no q=>
     have e':POut.fault k p= .fault 30 q:=e
     simp only[POut.fault.injEq] at e'
     omega
    |ok ts j=>
     have e':POut.fault k p=ym (flatTs ts 1):=e
     unfold ym at e'
     split at e'
     ·simp only[POut.fault.injEq] at e';omega
     ·split at e'
      ·simp only[POut.fault.injEq] at e';omega
      ·cases e'
theorem par_out{b:Addr}{w w2:World}{o:POut}{s:ByteArray}{v:Value}(ho:zN s o)(h:xE 253 (.pointer (some b)) w o (.returned v) w2):∃sl er,v= .tuple #[sl,er]/\Kin w w2/\xF b w2 sl er o:=by
 obtain⟨kin,hres⟩:=h
 cases o with
 |tree l=>
  obtain⟨sl,rfl,hown⟩:=hres
  exact⟨_,_,rfl,kin,rfl, .of_owns hown,parses_small ho⟩
 |fault k p=>
  obtain⟨q,rfl,hq,hc⟩:=hres
  exact⟨_,_,rfl,kin,rfl,q,rfl,hc⟩
theorem zdV(w w1:World)(K1:Kin w w1)(b:Addr)(s:ByteArray)(n:Int)(o:POut)(ho:zN s o)(bo:Option Addr)(cap:Nat)(sl er:Value)(hpo:xF b w1 sl er o)(Q:Exit->Act->World->Prop)(HQ:Hid (∀a w',bodyPost Tryz.prog Tryz.f7 (TrueP w) .ret a w'->Q .ret a w'))(t2 t3 t10 t11 t12 t13 t14 t15 t16 t17 t18 t19 t20 t21 t22 t23 t24 t25 t26 t27 t28 t29 t30 t31 t32 t33 t34 t35 t36 t37 t38 t39 t40 t41 t42 t43 t44 t45 t46 t47 t48 t49 t50 t51 t52 t53 t54 t55 t56 t57 t58 t59 t60 t61 t62 t63 t64 t65 t66 t67 t68 t69 t70 t71 t72 t73 t74 t75:Value):
 pfA1.wp Tryz.prog Q {tmps:=(.string s:: .int .i64 n::t2::t3:: .bool false:: .slice bo (treeOf o).length cap:: .int .i64 (codeOf o):: .int .i64 (atOf o)::sl::er::t10::t11::t12::t13::t14::t15::t16::t17::t18::t19::t20::t21::t22::t23::t24::t25::t26::t27::t28::t29::t30::t31::t32::t33::t34::t35::t36::t37::t38::t39::t40::t41::t42::t43::t44::t45::t46::t47::t48::t49::t50::t51::t52::t53::t54::t55::t56::t57::t58::t59::t60::t61::t62::t63::t64::t65::t66::t67::t68::t69::t70::t71::t72::t73::t74::t75::[]).toArray,defers:=[]} w1:=by
 have HK1:=Lib.hid K1
 cases o with
 |tree l=>
  obtain⟨rfl,_⟩:=hpo
  clear K1 ho
  simp only[pfA1,pfA,pf2,pf1,pf0,seqL,seqR,zaB,Tryz.f7,Option.getD_some,codeOf,atOf,treeOf]
  go_wp2
  exact HQ.out _ _ ⟨rfl, .bool true,by simp[results,Tryz.f7],rfl,HK1.out⟩
 |fault k p=>
  obtain⟨rfl,q,rfl,_⟩:=hpo
  have hk:k≠0:=fun h=>by obtain⟨l,e⟩:=uB ho h;cases e
  have hkb:(k==0)=false:=by simp[hk]
  clear K1 ho hk
  simp only[pfA1,pfA,pf2,pf1,pf0,seqL,seqR,zaB,Tryz.f7,Option.getD_some,codeOf,atOf,treeOf]
  go_wp2
  exact HQ.out _ _ ⟨rfl, .bool true,by simp[results,Tryz.f7],rfl,HK1.out⟩
theorem frontA(hP:TameProg Tryz.prog)(w w1:World)(K1:Kin w w1)(hv:VarsOk w1)(b:Addr)(hr:w1.cell? ⟨0,0,none⟩=some (.iface 253 (.pointer (some b))))(s:ByteArray)(hs:s.size<=9223372036854775807)(n:Int)(o:POut)(ho:zN s o)(bo:Option Addr)(cap:Nat)(B:Exit->Act->World->Prop)(HQ:Hid (∀a w',bodyPost Tryz.prog Tryz.f7 (TrueP w) .ret a w'->B .ret a w'))(t2 t3 t8 t9 t10 t11 t12 t13 t14 t15 t16 t17 t18 t19 t20 t21 t22 t23 t24 t25 t26 t27 t28 t29 t30 t31 t32 t33 t34 t35 t36 t37 t38 t39 t40 t41 t42 t43 t44 t45 t46 t47 t48 t49 t50 t51 t52 t53 t54 t55 t56 t57 t58 t59 t60 t61 t62 t63 t64 t65 t66 t67 t68 t69 t70 t71 t72 t73 t74 t75:Value):
 wpB Tryz.prog pfA B {tmps:=(.string s:: .int .i64 n::t2::t3:: .bool false:: .slice bo (treeOf o).length cap:: .int .i64 (codeOf o):: .int .i64 (atOf o)::t8::t9::t10::t11::t12::t13::t14::t15::t16::t17::t18::t19::t20::t21::t22::t23::t24::t25::t26::t27::t28::t29::t30::t31::t32::t33::t34::t35::t36::t37::t38::t39::t40::t41::t42::t43::t44::t45::t46::t47::t48::t49::t50::t51::t52::t53::t54::t55::t56::t57::t58::t59::t60::t61::t62::t63::t64::t65::t66::t67::t68::t69::t70::t71::t72::t73::t74::t75::[]).toArray,defers:=[]} w1:=by
 have HP:=Lib.hid (kg hP s hs 253 _ w1 hv hr o ho)
 have HK1:=Lib.hid K1
 have HO:=Lib.hid ho
 clear hv hr K1 ho
 rw[zjj]
 refine wpB_seq hP ?_
 obtain⟨id,hid⟩:=zio
 rw[hid]
 clear hid
 have HEND:Hid (∀w2 sl er,Kin w1 w2->xF b w2 sl er o->∀(t2 t3 t10 t11 t12 t13 t14 t15 t16 t17 t18 t19 t20 t21 t22 t23 t24 t25 t26 t27 t28 t29 t30 t31 t32 t33 t34 t35 t36 t37 t38 t39 t40 t41 t42 t43 t44 t45 t46 t47 t48 t49 t50 t51 t52 t53 t54 t55 t56 t57 t58 t59 t60 t61 t62 t63 t64 t65 t66 t67 t68 t69 t70 t71 t72 t73 t74 t75:Value),wpB Tryz.prog pfA1 B {tmps:=(.string s:: .int .i64 n::t2::t3:: .bool false:: .slice bo (treeOf o).length cap:: .int .i64 (codeOf o):: .int .i64 (atOf o)::sl::er::t10::t11::t12::t13::t14::t15::t16::t17::t18::t19::t20::t21::t22::t23::t24::t25::t26::t27::t28::t29::t30::t31::t32::t33::t34::t35::t36::t37::t38::t39::t40::t41::t42::t43::t44::t45::t46::t47::t48::t49::t50::t51::t52::t53::t54::t55::t56::t57::t58::t59::t60::t61::t62::t63::t64::t65::t66::t67::t68::t69::t70::t71::t72::t73::t74::t75::[]).toArray,defers:=[]} w2):=Lib.hid (by
  intro w2 sl er K2 hpo t2 t3 t10 t11 t12 t13 t14 t15 t16 t17 t18 t19 t20 t21 t22 t23 t24 t25 t26 t27 t28 t29 t30 t31 t32 t33 t34 t35 t36 t37 t38 t39 t40 t41 t42 t43 t44 t45 t46 t47 t48 t49 t50 t51 t52 t53 t54 t55 t56 t57 t58 t59 t60 t61 t62 t63 t64 t65 t66 t67 t68 t69 t70 t71 t72 t73 t74 t75
  exact wpB_lift hP fun T d=>zdV w (re w2 T d) ((HK1.out.trans K2).trans (zS w2 T d)) b s n o HO.out bo cap sl er (hpo.kin (zS w2 T d)) B HQ t2 t3 t10 t11 t12 t13 t14 t15 t16 t17 t18 t19 t20 t21 t22 t23 t24 t25 t26 t27 t28 t29 t30 t31 t32 t33 t34 t35 t36 t37 t38 t39 t40 t41 t42 t43 t44 t45 t46 t47 t48 t49 t50 t51 t52 t53 t54 t55 t56 t57 t58 t59 t60 t61 t62 t63 t64 t65 t66 t67 t68 t69 t70 t71 t72 t73 t74 t75)
 generalize hX:pfA1=X at HEND⊢
 clear hX
 simp only[pfA,pf2,pf1,pf0,seqL,seqR,zaB,zm,Tryz.f7,Option.getD_some]
 refine xJ hP (l:=[_,_,_,_,_,_,_]) ?_
 refine listB_cut hP [_] [_,_,_,_,_,_] fun T d=>?_
 generalize hN:yx Tryz.prog _ _ _=N
 have HN:=Lib.hid hN
 clear hN
 go_wp2
 rw[<-HN.out]
 refine jH ?_
 refine qB hP Tryz.func14 (by kernel_rfl) (by kernel_rfl) rfl rfl (args:= #[.string s]) (by simp[Act.eval,yS]) (HP.out.mono ?_)
 rintro e w2 hpost
 cases e with
 |outgrown=>exact hpost.elim
 |panicked _=>exact hpost.elim
 |returned v=>
  obtain⟨sl,er,rfl,kin,hpo⟩:=par_out HO.out hpost
  have HT:=Lib.hid (HEND.out w2 sl er kin hpo)
  clear hpost HN HP HEND hpo kin HO HK1 HQ
  show yx Tryz.prog _ _ _ _ w2
  generalize hM:Exit.then (wpB Tryz.prog X B) B=M
  have HM:=Lib.hid hM
  clear hM
  refine listB_lift hP fun T d=>?_
  go_wp2
  rw[<-HM.out]
  exact HT.out _ _ _ _ _ _ _ _ _ _ _ _ _ _ _ _ _ _ _ _ _ _ _ _ _ _ _ _ _ _ _ _ _ _ _ _ _ _ _ _ _ _ _ _ _ _ _ _ _ _ _ _ _ _ _ _ _ _ _ _ _ _ _ _ _ _ _ _
theorem zdU(w w1:World)(K1:Kin w w1)(b:Addr)(hr:w1.cell? ⟨0,0,none⟩=some (.iface 253 (.pointer (some b))))(hg:xh w1)(s:ByteArray)(n:Int)(o:POut)(bo:Option Addr)(cap:Nat)(p:Nat)(sl er:Value)(o2:POut)(hpo:xF b w1 sl er o2)(h2:(∃l',o2= .tree l')\/o2= .fault 30 p)(t2 t3 t8 t9 t13 t14 t15 t16 t17 t18 t19 t20 t21 t22 t23 t24 t25 t26 t27 t28 t29 t30 t31 t32 t33 t34 t35 t36 t37 t38 t39 t40 t41 t42 t43 t44 t45 t46 t47 t48 t49 t50 t51 t52 t53 t54 t55 t56 t57 t58 t59 t60 t61 t62 t63 t64 t65 t66 t67 t68 t69 t70 t71 t72 t73 t74 t75:Value):
 pfB2.wp Tryz.prog (bodyPost Tryz.prog Tryz.f7 (TrueP w)) {tmps:=(.string s:: .int .i64 n::t2::t3:: .bool false:: .slice bo (treeOf o).length cap:: .int .i64 (codeOf o):: .int .i64 (atOf o)::t8::t9:: .int .i64 p::sl::er::t13::t14::t15::t16::t17::t18::t19::t20::t21::t22::t23::t24::t25::t26::t27::t28::t29::t30::t31::t32::t33::t34::t35::t36::t37::t38::t39::t40::t41::t42::t43::t44::t45::t46::t47::t48::t49::t50::t51::t52::t53::t54::t55::t56::t57::t58::t59::t60::t61::t62::t63::t64::t65::t66::t67::t68::t69::t70::t71::t72::t73::t74::t75::[]).toArray,defers:=[]} w1:=by
 have HT:=Lib.hid (zaK hpo hr hg)
 have HK1:=Lib.hid K1
 clear hpo hr hg K1
 rcases h2 with⟨l',rfl⟩|rfl
 ·simp only[codeOf,atOf] at HT
  simp only[pfB2,pfB1,pfB,pf2,pf1,pf0,seqL,seqR,Tryz.f7,Option.getD_some]
  go_wp2_with (go_at_call 22;with_reducible refine HT.out.mono ?_;rintro e w2 ⟨rfl,K2⟩)
  exact⟨rfl, .bool true,by simp[results,Tryz.f7],rfl,HK1.out.trans K2⟩
 ·simp only[codeOf,atOf] at HT
  simp only[pfB2,pfB1,pfB,pf2,pf1,pf0,seqL,seqR,Tryz.f7,Option.getD_some]
  go_wp2_with (go_at_call 22;with_reducible refine HT.out.mono ?_;rintro e w2 ⟨rfl,K2⟩)
  exact⟨rfl, .bool true,by simp[results,Tryz.f7],rfl,HK1.out.trans K2⟩
theorem frontB1(hP:TameProg Tryz.prog)(w w1:World)(K1:Kin w w1)(hv:VarsOk w1)(b:Addr)(hr:w1.cell? ⟨0,0,none⟩=some (.iface 253 (.pointer (some b))))(hg:xh w1)(s:ByteArray)(hs:s.size<=9223372036854775807)(n:Int)(o:POut)(bo:Option Addr)(cap:Nat)(p:Nat)(hp:p<=s.size)(hlaw:∀o2,zN (s.extract 0 p) o2->(∃l',o2= .tree l')\/o2= .fault 30 p)(t2 t3 t8 t9 t11 t12 t13 t14 t15 t16 t17 t18 t19 t20 t21 t22 t23 t24 t25 t26 t27 t28 t29 t30 t31 t32 t33 t34 t35 t36 t37 t38 t39 t40 t41 t42 t43 t44 t45 t46 t47 t48 t49 t50 t51 t52 t53 t54 t55 t56 t57 t58 t59 t60 t61 t62 t63 t64 t65 t66 t67 t68 t69 t70 t71 t72 t73 t74 t75:Value):
 wpB Tryz.prog pfB1 (bodyPost Tryz.prog Tryz.f7 (TrueP w)) {tmps:=(.string s:: .int .i64 n::t2::t3:: .bool false:: .slice bo (treeOf o).length cap:: .int .i64 (codeOf o):: .int .i64 (atOf o)::t8::t9:: .int .i64 p::t11::t12::t13::t14::t15::t16::t17::t18::t19::t20::t21::t22::t23::t24::t25::t26::t27::t28::t29::t30::t31::t32::t33::t34::t35::t36::t37::t38::t39::t40::t41::t42::t43::t44::t45::t46::t47::t48::t49::t50::t51::t52::t53::t54::t55::t56::t57::t58::t59::t60::t61::t62::t63::t64::t65::t66::t67::t68::t69::t70::t71::t72::t73::t74::t75::[]).toArray,defers:=[]} w1:=by
 obtain⟨o2,ho2⟩:=vB (s.extract 0 p)
 have hsz:(s.extract 0 p).size<=9223372036854775807:=by rw[aC s hp];omega
 have HP:=Lib.hid (kg hP _ hsz 253 _ w1 hv hr o2 ho2)
 have HL:=Lib.hid (hlaw o2 ho2)
 have HK1:=Lib.hid K1
 have HO:=Lib.hid ho2
 have HR:=Lib.hid hr
 have HG:=Lib.hid hg
 clear hv hr hg K1 ho2 hlaw hsz
 rw[ziq]
 refine wpB_seq hP ?_
 obtain⟨id,hid⟩:=zin
 rw[hid]
 clear hid
 have HEND:Hid (∀w2 sl er,Kin w1 w2->xF b w2 sl er o2->∀(t2 t3 t8 t9 t13 t14 t15 t16 t17 t18 t19 t20 t21 t22 t23 t24 t25 t26 t27 t28 t29 t30 t31 t32 t33 t34 t35 t36 t37 t38 t39 t40 t41 t42 t43 t44 t45 t46 t47 t48 t49 t50 t51 t52 t53 t54 t55 t56 t57 t58 t59 t60 t61 t62 t63 t64 t65 t66 t67 t68 t69 t70 t71 t72 t73 t74 t75:Value),wpB Tryz.prog pfB2 (bodyPost Tryz.prog Tryz.f7 (TrueP w)) {tmps:=(.string s:: .int .i64 n::t2::t3:: .bool false:: .slice bo (treeOf o).length cap:: .int .i64 (codeOf o):: .int .i64 (atOf o)::t8::t9:: .int .i64 p::sl::er::t13::t14::t15::t16::t17::t18::t19::t20::t21::t22::t23::t24::t25::t26::t27::t28::t29::t30::t31::t32::t33::t34::t35::t36::t37::t38::t39::t40::t41::t42::t43::t44::t45::t46::t47::t48::t49::t50::t51::t52::t53::t54::t55::t56::t57::t58::t59::t60::t61::t62::t63::t64::t65::t66::t67::t68::t69::t70::t71::t72::t73::t74::t75::[]).toArray,defers:=[]} w2):=Lib.hid (by
  intro w2 sl er K2 hpo t2 t3 t8 t9 t13 t14 t15 t16 t17 t18 t19 t20 t21 t22 t23 t24 t25 t26 t27 t28 t29 t30 t31 t32 t33 t34 t35 t36 t37 t38 t39 t40 t41 t42 t43 t44 t45 t46 t47 t48 t49 t50 t51 t52 t53 t54 t55 t56 t57 t58 t59 t60 t61 t62 t63 t64 t65 t66 t67 t68 t69 t70 t71 t72 t73 t74 t75
  exact wpB_lift hP fun T d=>zdU w (re w2 T d) ((HK1.out.trans K2).trans (zS w2 T d)) b ((K2.cell (World.block_lt_of_cell? w1 _ HR.out)).trans HR.out) ((HG.out.kin K2).kin (zS w2 T d)) s n o bo cap p sl er o2 (hpo.kin (zS w2 T d)) HL.out t2 t3 t8 t9 t13 t14 t15 t16 t17 t18 t19 t20 t21 t22 t23 t24 t25 t26 t27 t28 t29 t30 t31 t32 t33 t34 t35 t36 t37 t38 t39 t40 t41 t42 t43 t44 t45 t46 t47 t48 t49 t50 t51 t52 t53 t54 t55 t56 t57 t58 t59 t60 t61 t62 t63 t64 t65 t66 t67 t68 t69 t70 t71 t72 t73 t74 t75)
 generalize hX:pfB2=X at HEND⊢
 clear hX
 generalize hB:bodyPost Tryz.prog Tryz.f7 (TrueP w)=B at HEND⊢
 clear hB
 simp only[pfB1,pfB,pf2,pf1,pf0,seqL,seqR,zm,Tryz.f7,Option.getD_some]
 refine xJ hP (l:=[_,_,_,_,_,_,_,_,_]) ?_
 refine listB_cut hP [_,_,_] [_,_,_,_,_,_] fun T d=>?_
 generalize hN:yx Tryz.prog _ _ _=N
 have HN:=Lib.hid hN
 clear hN
 go_wp2
 rw[<-HN.out]
 refine jH ?_
 refine qB hP Tryz.func14 (by kernel_rfl) (by kernel_rfl) rfl rfl (args:= #[.string (s.extract 0 p)]) (by simp[Act.eval,yS]) (HP.out.mono ?_)
 rintro e w2 hpost
 cases e with
 |outgrown=>exact hpost.elim
 |panicked _=>exact hpost.elim
 |returned v=>
  obtain⟨sl,er,rfl,kin,hpo⟩:=par_out HO.out hpost
  have HT:=Lib.hid (HEND.out w2 sl er kin hpo)
  clear hpost HN HP HEND hpo kin HO HK1 HR HG HL
  show yx Tryz.prog _ _ _ _ w2
  generalize hM:Exit.then (wpB Tryz.prog X B) B=M
  have HM:=Lib.hid hM
  clear hM
  refine listB_lift hP fun T d=>?_
  go_wp2
  rw[<-HM.out]
  exact HT.out _ _ _ _ _ _ _ _ _ _ _ _ _ _ _ _ _ _ _ _ _ _ _ _ _ _ _ _ _ _ _ _ _ _ _ _ _ _ _ _ _ _ _ _ _ _ _ _ _ _ _ _ _ _ _ _ _ _ _ _ _ _ _ _ _ _ _
theorem zb7{w:World}{v:Value}{l:List Nd}(h:zA w v l):∃bo cap,v= .slice bo l.length cap:=let ⟨bo,cap,e,_⟩:=h;⟨bo,cap,e⟩
theorem frontB(hP:TameProg Tryz.prog)(w w1:World)(K1:Kin w w1)(hv:VarsOk w1)(b:Addr)(hr:w1.cell? ⟨0,0,none⟩=some (.iface 253 (.pointer (some b))))(hg:xh w1)(s:ByteArray)(hs:s.size<=9223372036854775807)(n:Int)(l:List Nd)(ho:zN s (.tree l))(hl:0<l.length)(bo:Option Addr)(cap:Nat)(hcap:l.length<=cap)(hnd:l≠[]->∃g off,bo=some ⟨g,off,none⟩/\∀(j:Nat) (n:Nd),l[j]? =some n->∀(k:Nat) (c:Value),n.cells[k]? =some c->w1.cell? ⟨g,off+j*6+k,none⟩=some c)(t2 t3 t8 t9 t10 t11 t12 t13 t14 t15 t16 t17 t18 t19 t20 t21 t22 t23 t24 t25 t26 t27 t28 t29 t30 t31 t32 t33 t34 t35 t36 t37 t38 t39 t40 t41 t42 t43 t44 t45 t46 t47 t48 t49 t50 t51 t52 t53 t54 t55 t56 t57 t58 t59 t60 t61 t62 t63 t64 t65 t66 t67 t68 t69 t70 t71 t72 t73 t74 t75:Value):
 wpB Tryz.prog pfB (bodyPost Tryz.prog Tryz.f7 (TrueP w)) {tmps:=(.string s:: .int .i64 n::t2::t3:: .bool false:: .slice bo l.length cap:: .int .i64 0:: .int .i64 0::t8::t9::t10::t11::t12::t13::t14::t15::t16::t17::t18::t19::t20::t21::t22::t23::t24::t25::t26::t27::t28::t29::t30::t31::t32::t33::t34::t35::t36::t37::t38::t39::t40::t41::t42::t43::t44::t45::t46::t47::t48::t49::t50::t51::t52::t53::t54::t55::t56::t57::t58::t59::t60::t61::t62::t63::t64::t65::t66::t67::t68::t69::t70::t71::t72::t73::t74::t75::[]).toArray,defers:=[]} w1:=by
 obtain⟨g,off,rfl,hcell⟩:=hnd (by rintro rfl;simp at hl)
 have hsm:=parses_small ho
 have HREST:=Lib.hid (fun w=>rest_any n l.length hl (by omega) w)
 have HNEXT:Hid (∀w2,Kin w1 w2->∀(p:Nat) (m:Nd),m∈l->m.at_=p->∀(t2 t3 t8 t9 t11 t12 t13 t14 t15 t16 t17 t18 t19 t20 t21 t22 t23 t24 t25 t26 t27 t28 t29 t30 t31 t32 t33 t34 t35 t36 t37 t38 t39 t40 t41 t42 t43 t44 t45 t46 t47 t48 t49 t50 t51 t52 t53 t54 t55 t56 t57 t58 t59 t60 t61 t62 t63 t64 t65 t66 t67 t68 t69 t70 t71 t72 t73 t74 t75:Value),wpB Tryz.prog pfB1 (bodyPost Tryz.prog Tryz.f7 (TrueP w)) {tmps:=(.string s:: .int .i64 n::t2::t3:: .bool false:: .slice (some ⟨g,off,none⟩) l.length cap:: .int .i64 0:: .int .i64 0::t8::t9:: .int .i64 p::t11::t12::t13::t14::t15::t16::t17::t18::t19::t20::t21::t22::t23::t24::t25::t26::t27::t28::t29::t30::t31::t32::t33::t34::t35::t36::t37::t38::t39::t40::t41::t42::t43::t44::t45::t46::t47::t48::t49::t50::t51::t52::t53::t54::t55::t56::t57::t58::t59::t60::t61::t62::t63::t64::t65::t66::t67::t68::t69::t70::t71::t72::t73::t74::t75::[]).toArray,defers:=[]} w2):=Lib.hid (by
  intro w2 K2 p m hm hp t2 t3 t8 t9 t11 t12 t13 t14 t15 t16 t17 t18 t19 t20 t21 t22 t23 t24 t25 t26 t27 t28 t29 t30 t31 t32 t33 t34 t35 t36 t37 t38 t39 t40 t41 t42 t43 t44 t45 t46 t47 t48 t49 t50 t51 t52 t53 t54 t55 t56 t57 t58 t59 t60 t61 t62 t63 t64 t65 t66 t67 t68 t69 t70 t71 t72 t73 t74 t75
  obtain⟨p',h1,h2,h3⟩:=zae ho hm
  obtain rfl:p=p':=by omega
  exact frontB1 hP w w2 (K1.trans K2) (hv.kin K2) b ((K2.cell (World.block_lt_of_cell? w1 _ hr)).trans hr) (hg.kin K2) s hs n (.tree l) _ cap p h2 h3 t2 t3 t8 t9 t11 t12 t13 t14 t15 t16 t17 t18 t19 t20 t21 t22 t23 t24 t25 t26 t27 t28 t29 t30 t31 t32 t33 t34 t35 t36 t37 t38 t39 t40 t41 t42 t43 t44 t45 t46 t47 t48 t49 t50 t51 t52 t53 t54 t55 t56 t57 t58 t59 t60 t61 t62 t63 t64 t65 t66 t67 t68 t69 t70 t71 t72 t73 t74 t75)
 have HPOS:Hid (∀m∈l,∃p:Nat,m.at_=p):=Lib.hid (fun m hm=>let ⟨p,h1,_⟩:=zae ho hm;⟨p,h1⟩)
 have HC:=Lib.hid hcell
 clear hv hr hg K1 ho hcell hnd
 rw[zji]
 refine wpB_seq hP (wpB_lift hP fun T d=>?_)
 generalize hW:re w1 T d=w3
 have HK3:Hid (Kin w1 w3):=Lib.hid (by rw[<-hW];exact zS w1 T d)
 clear hW
 generalize hX:pfB1=X at HNEXT⊢
 clear hX
 generalize hB:bodyPost Tryz.prog Tryz.f7 (TrueP w)=B at HNEXT⊢
 clear hB
 simp only[pfB,pf2,pf1,pf0,seqL,seqR,Tryz.f7,Option.getD_some]
 go_wp2_with (go_at_call 23;with_reducible refine(HREST.out _).mono ?_;rintro e w4 ⟨⟨k,hk,rfl⟩,rfl⟩;obtain⟨m,hm⟩:∃m,l[k]? =some m:=⟨_,List.getElem?_eq_getElem hk⟩;obtain⟨p,hp⟩:=HPOS.out m (List.mem_of_getElem? hm);have hc:=HC.out k m hm 5 _ rfl;rw[hp] at hc;have hc5:=(HK3.out.cell (World.block_lt_of_cell? w1 _ hc)).trans hc;clear hc;have HM:=Lib.hid (List.mem_of_getElem? hm);have HPP:=Lib.hid hp;clear hm hp)
 exact HNEXT.out _ HK3.out p m HM.out HPP.out _ _ _ _ _ _ _ _ _ _ _ _ _ _ _ _ _ _ _ _ _ _ _ _ _ _ _ _ _ _ _ _ _ _ _ _ _ _ _ _ _ _ _ _ _ _ _ _ _ _ _ _ _ _ _ _ _ _ _ _ _ _ _ _ _ _ _ _ _
theorem front_two(hP:TameProg Tryz.prog)(s:ByteArray)(n:Int)(co ao:Int)(tr:List Nd)(w1:World)(B:Exit->Act->World->Prop)
 (HA:Hid (∀w2,Kin w1 w2->∀(bo:Option Addr) (cap:Nat) (t2 t3 t8 t9 t10 t11 t12 t13 t14 t15 t16 t17 t18 t19 t20 t21 t22 t23 t24 t25 t26 t27 t28 t29 t30 t31 t32 t33 t34 t35 t36 t37 t38 t39 t40 t41 t42 t43 t44 t45 t46 t47 t48 t49 t50 t51 t52 t53 t54 t55 t56 t57 t58 t59 t60 t61 t62 t63 t64 t65 t66 t67 t68 t69 t70 t71 t72 t73 t74 t75:Value),wpB Tryz.prog pfA (Exit.then (wpB Tryz.prog pfB B) B) {tmps:=(.string s:: .int .i64 n::t2::t3:: .bool false:: .slice bo tr.length cap:: .int .i64 co:: .int .i64 ao::t8::t9::t10::t11::t12::t13::t14::t15::t16::t17::t18::t19::t20::t21::t22::t23::t24::t25::t26::t27::t28::t29::t30::t31::t32::t33::t34::t35::t36::t37::t38::t39::t40::t41::t42::t43::t44::t45::t46::t47::t48::t49::t50::t51::t52::t53::t54::t55::t56::t57::t58::t59::t60::t61::t62::t63::t64::t65::t66::t67::t68::t69::t70::t71::t72::t73::t74::t75::[]).toArray,defers:=[]} w2))
 (HB:Hid (∀w2,Kin w1 w2->∀(bo:Option Addr) (cap:Nat),co=0->0<tr.length->zA w2 (.slice bo tr.length cap) tr->∀(t2 t3 t8 t9 t10 t11 t12 t13 t14 t15 t16 t17 t18 t19 t20 t21 t22 t23 t24 t25 t26 t27 t28 t29 t30 t31 t32 t33 t34 t35 t36 t37 t38 t39 t40 t41 t42 t43 t44 t45 t46 t47 t48 t49 t50 t51 t52 t53 t54 t55 t56 t57 t58 t59 t60 t61 t62 t63 t64 t65 t66 t67 t68 t69 t70 t71 t72 t73 t74 t75:Value),wpB Tryz.prog pfB B {tmps:=(.string s:: .int .i64 n::t2::t3:: .bool false:: .slice bo tr.length cap:: .int .i64 co:: .int .i64 ao::t8::t9::t10::t11::t12::t13::t14::t15::t16::t17::t18::t19::t20::t21::t22::t23::t24::t25::t26::t27::t28::t29::t30::t31::t32::t33::t34::t35::t36::t37::t38::t39::t40::t41::t42::t43::t44::t45::t46::t47::t48::t49::t50::t51::t52::t53::t54::t55::t56::t57::t58::t59::t60::t61::t62::t63::t64::t65::t66::t67::t68::t69::t70::t71::t72::t73::t74::t75::[]).toArray,defers:=[]} w2))
 (w2:World) (K2:Kin w1 w2) (bo:Option Addr) (cap:Nat) (hN:zA w2 (.slice bo tr.length cap) tr) (t2 t3 t8 t9 t10 t11 t12 t13 t14 t15 t16 t17 t18 t19 t20 t21 t22 t23 t24 t25 t26 t27 t28 t29 t30 t31 t32 t33 t34 t35 t36 t37 t38 t39 t40 t41 t42 t43 t44 t45 t46 t47 t48 t49 t50 t51 t52 t53 t54 t55 t56 t57 t58 t59 t60 t61 t62 t63 t64 t65 t66 t67 t68 t69 t70 t71 t72 t73 t74 t75:Value):wpB Tryz.prog pf2 B {tmps:=(.string s:: .int .i64 n::t2::t3:: .bool false:: .slice bo tr.length cap:: .int .i64 co:: .int .i64 ao::t8::t9::t10::t11::t12::t13::t14::t15::t16::t17::t18::t19::t20::t21::t22::t23::t24::t25::t26::t27::t28::t29::t30::t31::t32::t33::t34::t35::t36::t37::t38::t39::t40::t41::t42::t43::t44::t45::t46::t47::t48::t49::t50::t51::t52::t53::t54::t55::t56::t57::t58::t59::t60::t61::t62::t63::t64::t65::t66::t67::t68::t69::t70::t71::t72::t73::t74::t75::[]).toArray,defers:=[]} w2:=by
 obtain⟨c,hc,hc30⟩:=zjk
 rw[hc]
 subst hc30
 clear hc
 refine wpB_seq hP (wpB_seq hP (wpB_lift hP fun T d=>?_))
 generalize hW:re w2 T d=w4
 have HK4:Hid (Kin w1 w4):=Lib.hid (by rw[<-hW];exact K2.trans (zS w2 T d))
 have HN4:Hid (zA w4 (.slice bo tr.length cap) tr):=Lib.hid (by rw[<-hW];exact hN.kin (zS w2 T d))
 clear hW hN K2
 generalize hXA:pfA=XA at HA⊢
 clear hXA
 generalize hXB:pfB=XB at HB HA⊢
 clear hXB
 generalize hY:wpB Tryz.prog (Code.cond (.tmp 30) XA .skip) _=Y
 have HY:=Lib.hid hY
 clear hY
 by_cases hcz:co=0
 ·have HCZ:=Lib.hid hcz
  have hcb:(co !=0)=false:=by simp[hcz]
  clear hcz
  by_cases hl:tr.length=0
  ·have hlb:((tr.length:Int)==0)=true:=by simp[hl]
   clear hl
   simp only[pf2,pf1,pf0,seqL,seqR,Tryz.f7,Option.getD_some]
   go_wp2
   rw[<-HY.out]
   refine uE hP (t:=true) (by simp[Act.eval,yS]) ?_
   exact HA.out w4 HK4.out bo cap _ _ _ _ _ _ _ _ _ _ _ _ _ _ _ _ _ _ _ _ _ _ _ _ _ _ _ _ _ _ _ _ _ _ _ _ _ _ _ _ _ _ _ _ _ _ _ _ _ _ _ _ _ _ _ _ _ _ _ _ _ _ _ _ _ _ _ _ _ _
  ·have hlb:((tr.length:Int)==0)=false:=by rw[beq_eq_false_iff_ne];omega
   have HL:Hid (0<tr.length):=Lib.hid (by omega)
   clear hl
   simp only[pf2,pf1,pf0,seqL,seqR,Tryz.f7,Option.getD_some]
   go_wp2
   rw[<-HY.out]
   refine uE hP (t:=false) (by simp[Act.eval,yS]) ?_
   refine wpB_lift hP fun T d=>?_
   refine wp_skip ?_
   exact HB.out _ (HK4.out.trans (zS w4 T d)) bo cap HCZ.out HL.out (HN4.out.kin (zS w4 T d)) _ _ _ _ _ _ _ _ _ _ _ _ _ _ _ _ _ _ _ _ _ _ _ _ _ _ _ _ _ _ _ _ _ _ _ _ _ _ _ _ _ _ _ _ _ _ _ _ _ _ _ _ _ _ _ _ _ _ _ _ _ _ _ _ _ _ _ _ _ _
 ·have hcb:(co !=0)=true:=by simp[hcz]
  clear hcz
  simp only[pf2,pf1,pf0,seqL,seqR,Tryz.f7,Option.getD_some]
  go_wp2
  rw[<-HY.out]
  refine uE hP (t:=true) (by simp[Act.eval,yS]) ?_
  exact HA.out w4 HK4.out bo cap _ _ _ _ _ _ _ _ _ _ _ _ _ _ _ _ _ _ _ _ _ _ _ _ _ _ _ _ _ _ _ _ _ _ _ _ _ _ _ _ _ _ _ _ _ _ _ _ _ _ _ _ _ _ _ _ _ _ _ _ _ _ _ _ _ _ _ _ _ _
theorem zdT(hP:TameProg Tryz.prog)(w w1:World)(K1:Kin w w1)(hv:VarsOk w1)(b:Addr)(hr:w1.cell? ⟨0,0,none⟩=some (.iface 253 (.pointer (some b))))(hg:xh w1)(s:ByteArray)(hs:s.size<=9223372036854775807)(n:Int)(t2 t3 t5 t6 t7 t8 t9 t10 t11 t12 t13 t14 t15 t16 t17 t18 t19 t20 t21 t22 t23 t24 t25 t26 t27 t28 t29 t30 t31 t32 t33 t34 t35 t36 t37 t38 t39 t40 t41 t42 t43 t44 t45 t46 t47 t48 t49 t50 t51 t52 t53 t54 t55 t56 t57 t58 t59 t60 t61 t62 t63 t64 t65 t66 t67 t68 t69 t70 t71 t72 t73 t74 t75:Value):
 wpB Tryz.prog pf1 (bodyPost Tryz.prog Tryz.f7 (TrueP w)) {tmps:=(.string s:: .int .i64 n::t2::t3:: .bool false::t5::t6::t7::t8::t9::t10::t11::t12::t13::t14::t15::t16::t17::t18::t19::t20::t21::t22::t23::t24::t25::t26::t27::t28::t29::t30::t31::t32::t33::t34::t35::t36::t37::t38::t39::t40::t41::t42::t43::t44::t45::t46::t47::t48::t49::t50::t51::t52::t53::t54::t55::t56::t57::t58::t59::t60::t61::t62::t63::t64::t65::t66::t67::t68::t69::t70::t71::t72::t73::t74::t75::[]).toArray,defers:=[]} w1:=by
 obtain⟨o,ho⟩:=vB s
 have HDOC:Hid (∀w,Calls Tryz.prog 15 #[.string s] w fun e w'=>Kin w w'/\∃sl,e= .returned (.tuple #[sl, .int .i64 (codeOf o), .int .i64 (atOf o)])/\zA w' sl (treeOf o)):=Lib.hid (fun w=>(rparse_any s hs w o ho).mono fun e w' h=>wm h (fun l e=>parses_small (e▸ho)))
 have HTWO:Hid (∀w2,Kin w1 w2->∀(bo:Option Addr) (cap:Nat),zA w2 (.slice bo (treeOf o).length cap) (treeOf o)->∀(t2 t3 t8 t9 t10 t11 t12 t13 t14 t15 t16 t17 t18 t19 t20 t21 t22 t23 t24 t25 t26 t27 t28 t29 t30 t31 t32 t33 t34 t35 t36 t37 t38 t39 t40 t41 t42 t43 t44 t45 t46 t47 t48 t49 t50 t51 t52 t53 t54 t55 t56 t57 t58 t59 t60 t61 t62 t63 t64 t65 t66 t67 t68 t69 t70 t71 t72 t73 t74 t75:Value),wpB Tryz.prog pf2 (bodyPost Tryz.prog Tryz.f7 (TrueP w)) {tmps:=(.string s:: .int .i64 n::t2::t3:: .bool false:: .slice bo (treeOf o).length cap:: .int .i64 (codeOf o):: .int .i64 (atOf o)::t8::t9::t10::t11::t12::t13::t14::t15::t16::t17::t18::t19::t20::t21::t22::t23::t24::t25::t26::t27::t28::t29::t30::t31::t32::t33::t34::t35::t36::t37::t38::t39::t40::t41::t42::t43::t44::t45::t46::t47::t48::t49::t50::t51::t52::t53::t54::t55::t56::t57::t58::t59::t60::t61::t62::t63::t64::t65::t66::t67::t68::t69::t70::t71::t72::t73::t74::t75::[]).toArray,defers:=[]} w2):=Lib.hid (by
  intro w2 K2 bo cap hN t2 t3 t8 t9 t10 t11 t12 t13 t14 t15 t16 t17 t18 t19 t20 t21 t22 t23 t24 t25 t26 t27 t28 t29 t30 t31 t32 t33 t34 t35 t36 t37 t38 t39 t40 t41 t42 t43 t44 t45 t46 t47 t48 t49 t50 t51 t52 t53 t54 t55 t56 t57 t58 t59 t60 t61 t62 t63 t64 t65 t66 t67 t68 t69 t70 t71 t72 t73 t74 t75
  refine front_two hP s n (codeOf o) (atOf o) (treeOf o) w1 _ (Lib.hid ?_) (Lib.hid ?_) w2 K2 bo cap hN t2 t3 t8 t9 t10 t11 t12 t13 t14 t15 t16 t17 t18 t19 t20 t21 t22 t23 t24 t25 t26 t27 t28 t29 t30 t31 t32 t33 t34 t35 t36 t37 t38 t39 t40 t41 t42 t43 t44 t45 t46 t47 t48 t49 t50 t51 t52 t53 t54 t55 t56 t57 t58 t59 t60 t61 t62 t63 t64 t65 t66 t67 t68 t69 t70 t71 t72 t73 t74 t75
  ·intro w2 K2 bo cap t2 t3 t8 t9 t10 t11 t12 t13 t14 t15 t16 t17 t18 t19 t20 t21 t22 t23 t24 t25 t26 t27 t28 t29 t30 t31 t32 t33 t34 t35 t36 t37 t38 t39 t40 t41 t42 t43 t44 t45 t46 t47 t48 t49 t50 t51 t52 t53 t54 t55 t56 t57 t58 t59 t60 t61 t62 t63 t64 t65 t66 t67 t68 t69 t70 t71 t72 t73 t74 t75
   exact frontA hP w w2 (K1.trans K2) (hv.kin K2) b ((K2.cell (World.block_lt_of_cell? w1 _ hr)).trans hr) s hs n o ho bo cap (Exit.then (wpB Tryz.prog pfB (bodyPost Tryz.prog Tryz.f7 (TrueP w))) (bodyPost Tryz.prog Tryz.f7 (TrueP w))) (Lib.hid fun a w' h=>h) t2 t3 t8 t9 t10 t11 t12 t13 t14 t15 t16 t17 t18 t19 t20 t21 t22 t23 t24 t25 t26 t27 t28 t29 t30 t31 t32 t33 t34 t35 t36 t37 t38 t39 t40 t41 t42 t43 t44 t45 t46 t47 t48 t49 t50 t51 t52 t53 t54 t55 t56 t57 t58 t59 t60 t61 t62 t63 t64 t65 t66 t67 t68 t69 t70 t71 t72 t73 t74 t75
  ·intro w2 K2 bo cap hc hl hnd t2 t3 t8 t9 t10 t11 t12 t13 t14 t15 t16 t17 t18 t19 t20 t21 t22 t23 t24 t25 t26 t27 t28 t29 t30 t31 t32 t33 t34 t35 t36 t37 t38 t39 t40 t41 t42 t43 t44 t45 t46 t47 t48 t49 t50 t51 t52 t53 t54 t55 t56 t57 t58 t59 t60 t61 t62 t63 t64 t65 t66 t67 t68 t69 t70 t71 t72 t73 t74 t75
   obtain⟨l,rfl⟩:=uB ho hc
   obtain⟨bo',cap',e,hcap,hne⟩:=hnd
   cases e
   exact frontB hP w w2 (K1.trans K2) (hv.kin K2) b ((K2.cell (World.block_lt_of_cell? w1 _ hr)).trans hr) (hg.kin K2) s hs n l ho hl bo cap hcap hne t2 t3 t8 t9 t10 t11 t12 t13 t14 t15 t16 t17 t18 t19 t20 t21 t22 t23 t24 t25 t26 t27 t28 t29 t30 t31 t32 t33 t34 t35 t36 t37 t38 t39 t40 t41 t42 t43 t44 t45 t46 t47 t48 t49 t50 t51 t52 t53 t54 t55 t56 t57 t58 t59 t60 t61 t62 t63 t64 t65 t66 t67 t68 t69 t70 t71 t72 t73 t74 t75)
 clear hv hr hg K1 ho
 generalize hBB:bodyPost Tryz.prog Tryz.f7 (TrueP w)=B at HTWO⊢
 clear hBB
 generalize codeOf o=co at*
 generalize atOf o=ao at*
 generalize treeOf o=tr at*
 rw[zjl]
 refine wpB_seq hP (wpB_lift hP fun T d=>?_)
 generalize hW:re w1 T d=w3
 have HK3:Hid (Kin w1 w3):=Lib.hid (by rw[<-hW];exact zS w1 T d)
 clear hW
 generalize hX:pf2=X at HTWO⊢
 clear hX
 simp only[pf1,pf0,seqL,seqR,Tryz.f7,Option.getD_some]
 go_wp2_with (go_at_call 15;with_reducible refine(HDOC.out _).mono ?_;rintro e w4 ⟨K4,sl,rfl,hN⟩;obtain⟨bo,cap,rfl⟩:=zb7 hN;have HN:=Lib.hid hN;clear hN;have HK4:=Lib.hid (HK3.out.trans K4);clear K4)
 exact HTWO.out w4 HK4.out bo cap HN.out _ _ _ _ _ _ _ _ _ _ _ _ _ _ _ _ _ _ _ _ _ _ _ _ _ _ _ _ _ _ _ _ _ _ _ _ _ _ _ _ _ _ _ _ _ _ _ _ _ _ _ _ _ _ _ _ _ _ _ _ _ _ _ _ _ _ _ _ _ _
theorem zfl(hP:TameProg Tryz.prog)(w:World)(hv:VarsOk w)(b:Addr)(hr:w.cell? ⟨0,0,none⟩=some (.iface 253 (.pointer (some b))))(hg:xh w)(s:ByteArray)(hs:s.size<=9223372036854775807)(n:Int):CallsB Tryz.prog 7 #[.string s, .int .i64 n] w (TrueP w):=by
 have hR:∀w',¬TrueP w .outgrown w':=fun w' h=>h
 refine jz hP Tryz.func7 (c:=pf0) rfl hR ?_
 rw[zjm]
 have ha:(#[Value.string s, .int .i64 n]++Array.replicate (Tryz.f7.ntmps- #[Value.string s, .int .i64 n].size) undef)=(.string s:: .int .i64 n::undef::undef::undef::undef::undef::undef::undef::undef::undef::undef::undef::undef::undef::undef::undef::undef::undef::undef::undef::undef::undef::undef::undef::undef::undef::undef::undef::undef::undef::undef::undef::undef::undef::undef::undef::undef::undef::undef::undef::undef::undef::undef::undef::undef::undef::undef::undef::undef::undef::undef::undef::undef::undef::undef::undef::undef::undef::undef::undef::undef::undef::undef::undef::undef::undef::undef::undef::undef::undef::undef::undef::undef::undef::undef::[]).toArray:=by
  simp only[Tryz.ntmps7]
  simp[Array.replicate_succ]
 rw[ha]
 clear ha
 have HT:Hid (∀w1,Kin w w1->∀t16 t17,wpB Tryz.prog pf1 (bodyPost Tryz.prog Tryz.f7 (TrueP w)) {tmps:=(.string s:: .int .i64 n::undef::undef:: .bool false::undef::undef::undef::undef::undef::undef::undef::undef::undef::undef::undef::t16::t17::undef::undef::undef::undef::undef::undef::undef::undef::undef::undef::undef::undef::undef::undef::undef::undef::undef::undef::undef::undef::undef::undef::undef::undef::undef::undef::undef::undef::undef::undef::undef::undef::undef::undef::undef::undef::undef::undef::undef::undef::undef::undef::undef::undef::undef::undef::undef::undef::undef::undef::undef::undef::undef::undef::undef::undef::undef::undef::[]).toArray,defers:=[]} w1):=Lib.hid (fun w1 K1 t16 t17=>zdT hP w w1 K1 (hv.kin K1) b ((K1.cell (World.block_lt_of_cell? w _ hr)).trans hr) (hg.kin K1) s hs n undef undef undef undef undef undef undef undef undef undef undef undef undef t16 t17 undef undef undef undef undef undef undef undef undef undef undef undef undef undef undef undef undef undef undef undef undef undef undef undef undef undef undef undef undef undef undef undef undef undef undef undef undef undef undef undef undef undef undef undef undef undef undef undef undef undef undef undef undef undef undef undef undef undef)
 have HF:=Lib.hid (fun w1 (K:Kin w w1)=>zah hP 253 _ w1 (hv.kin K) ((K.cell (World.block_lt_of_cell? w _ hr)).trans hr))
 clear hv hr hg
 generalize hB:bodyPost Tryz.prog Tryz.f7 (TrueP w)=B at HT⊢
 clear hB
 generalize hX:pf1=X at HT⊢
 clear hX
 refine wpB_seq hP (wpB_lift hP fun T d=>?_)
 generalize hW:re w T d=w1
 have HK1:Hid (Kin w w1):=Lib.hid (by rw[<-hW];exact zS w T d)
 clear hW
 generalize hY:(Code.seq (.seq (seqL (seqL (seqR pf0))) (seqR (seqL (seqR pf0)))) X)=Y
 have HY:=Lib.hid hY
 clear hY
 simp only[pf0,seqL,seqR,Tryz.f7,Option.getD_some]
 go_wp2
 rw[<-HY.out]
 refine wpB_seq hP (wpB_seq hP ?_)
 obtain⟨id,hid⟩:=zip
 rw[hid]
 clear hid HY
 generalize hM:(Exit.then (wpB Tryz.prog (seqR (seqL (seqR pf0))) (Exit.then (wpB Tryz.prog X B) B)) (Exit.then (wpB Tryz.prog X B) B))=M
 have HM:Hid (∀a w',(∀T d,(seqR (seqL (seqR pf0))).wp Tryz.prog (Exit.then (wpB Tryz.prog X B) B) a (re w' T d))->M .normal a w'):=Lib.hid (fun a w' h=>by
  rw[<-hM]
  exact wpB_lift hP h)
 clear hM
 simp only[pf0,seqL,seqR,zm,Tryz.f7,Option.getD_some]
 refine xJ hP (l:=[_,_]) ?_
 refine qB hP Tryz.func13 (by kernel_rfl) (by kernel_rfl) rfl rfl (args:= #[]) (by simp[Act.eval,yS]) ((HF.out w1 HK1.out).mono ?_)
 rintro e w2 hpost
 cases e with
 |outgrown=>exact hpost.elim
 |panicked _=>exact hpost.elim
 |returned v=>
  obtain⟨rfl,K2⟩:=hpost
  have HT2:Hid (∀w3,Kin w1 w3->∀t16 t17,wpB Tryz.prog X B {tmps:=(.string s:: .int .i64 n::undef::undef:: .bool false::undef::undef::undef::undef::undef::undef::undef::undef::undef::undef::undef::t16::t17::undef::undef::undef::undef::undef::undef::undef::undef::undef::undef::undef::undef::undef::undef::undef::undef::undef::undef::undef::undef::undef::undef::undef::undef::undef::undef::undef::undef::undef::undef::undef::undef::undef::undef::undef::undef::undef::undef::undef::undef::undef::undef::undef::undef::undef::undef::undef::undef::undef::undef::undef::undef::undef::undef::undef::undef::undef::undef::[]).toArray,defers:=[]} w3):=Lib.hid (fun w3 K3 t16 t17=>HT.out w3 (HK1.out.trans K3) t16 t17)
  have HK2:=Lib.hid K2
  clear HT HF HK1 K2
  show yx Tryz.prog _ _ _ _ w2
  refine listB_lift hP fun T d=>?_
  generalize hW:re w2 T d=w3
  have HK3:Hid (Kin w1 w3):=Lib.hid (by rw[<-hW];exact HK2.out.trans (zS w2 T d))
  clear hW HK2
  go_wp2
  refine HM.out _ _ fun T d=>?_
  generalize hW:re w3 T d=w4
  have HK4:Hid (Kin w1 w4):=Lib.hid (by rw[<-hW];exact HK3.out.trans (zS w3 T d))
  clear hW HK3 HM
  simp only[pf0,seqL,seqR,Tryz.f7,Option.getD_some]
  go_wp2
  exact HT2.out w4 HK4.out _ _
open Go.ChangeShapes Go.WideShapes Go.ChangeAt Go.RowKit Go.Conc
theorem zdN:Rows.parseFrontRow.laid=Rows.parseNestsRow.laid:=by kernel_rfl
theorem zbb(os:Os)(started:os.Started)(H:Type)(enc:TypeId×Value->H):
 ReturnsInLeavingWide {} Tryz.checked os 7 .any (fun w args=>(Rows.parseFrontSpec.pre enc Tryz.prog Tryz.f7 Rows.parseFrontRow.domain false w args/\laidMetH Tryz.prog Rows.parseFrontRow.laid w)/\sizedMet enc Tryz.prog Tryz.f7 (OpenSpec.ofChange Rows.parseFrontSpec) false w args)
  (Rows.parseFrontSpec.post enc Tryz.prog Tryz.f7 false true false false):=by
 rw[zdN]
 refine yN (C:=Tryz.checked) (X:=fun w _=>laidMetH Tryz.prog Rows.parseNestsRow.laid w) (fun _ _ _ hh h=>h.of_heap hh) own0 started Tryz.func7
  (ChangeSpec.witness_shaped (enc:=enc) (C:=Tryz.checked) (os:=os) (X:=fun w _=>laidMetH Tryz.prog Rows.parseNestsRow.laid w) false (jY os) #[.string ⟨#[]⟩, .int .i64 0] 8 (uv _)
   (World.shaped_of_ZipB (by kernel_rfl) (by kernel_rfl)) (by kernel_rfl) (by kernel_rfl) (by kernel_rfl) (vI os _)) ?_
 intro W base args ds gs before hval0 hW _ hsz0 hL _
 have hsz:(DataW.weightsEach Tryz.prog (Tryz.f7.params.toList++Rows.parseFrontSpec.plain.varTypes Tryz.prog) (ds++gs)).all (· <=reachBytes)=true:=hsz0
 have hval:∀(j:Nat) t v,Tryz.f7.params[j]? =some t->args[j]? =some v->Value.okWide Tryz.prog W .any base t v:=hval0
 have hW':=hW
 obtain⟨p,q,hA0,hV,rfl,_,_⟩:=hW
 have hA:DataW.TrodAll enc Tryz.prog W 0 (fun _=>true) true Tryz.f7.params.toList args.toList ds p:=hA0
 rw[Tryz.params7] at hA hval hsz
 obtain⟨v0,v1,d0,d1,p0,p1,rfl,rfl,rfl,h0,h1⟩:=trodAll_two hA
 obtain⟨rfl,rfl⟩:=trodVars_none hV
 obtain⟨s,rfl,rfl,rfl,ws⟩:=Go.ChangeMaps.open_string Tryz.underlying9 (hval 0 9 v0 rfl rfl) h0
 obtain⟨n,rfl,rfl,rfl,hwn⟩:=open_int Tryz.underlying3 (hval 1 3 v1 rfl rfl) h1
 simp only[List.append_nil] at hW'
 have hreach:s.size<=140737488355328:=by
  have:=sized_string hsz (j:=0) (t:=9) (bytes:=s.data.toList) rfl rfl
  have e:s.data.toList.length=s.size:=Array.length_toList
  rw[e] at this
  exact Nat.le_trans this (by unfold reachBytes;decide)
 obtain⟨l1,l2,⟨b,hr⟩,hT⟩:=wF hL
 have hsize:Tryz.prog.globals.size<=W.heap.size:=by
  obtain⟨_,_,_,_,h9⟩:=l2 9 (.inr rfl)
  have hlt:9<W.heap.size:=(Array.getElem?_eq_some_iff.1 h9).1
  have e:Tryz.prog.globals.size=10:=by kernel_rfl
  omega
 have hcall:=zfl Tryz.tame W ⟨l1,l2,hsize⟩ b hr hT s (by omega) n
 have hcall2:Bsd.CallsB Tryz.prog 7 #[.string s, .int .i64 n] W (fun| .returned v,w'=>v= .bool true/\Kin W w'|_,_=>False):=hcall.mono fun e w' h=>by
  cases e with
  |returned v=>exact h
  |panicked c=>exact h
  |outgrown=>exact h
 obtain⟨M,last,o,w',t',r1,r2,r3,r4⟩:=Bsd.callsB_run Tryz.tame Tryz.func7 (Post:=fun v w'=>v= .bool true/\Kin W w') rfl (by kernel_rfl) rfl (fun v w T d h=>⟨h.1,h.2.trans (zS w T d)⟩) hcall2
 refine⟨M,last,o,w',t',r1,r2,r3,r4.mono fun v hF=>?_⟩
 obtain⟨rfl,hk⟩:=hF
 exact⟨_,_,_,[],[],[],hW',trodAll_mk1 (shut_bool Tryz.underlying4 true),trodAll_mk2 (Go.ChangeMaps.shut_string Tryz.underlying9 ws) (shut_int Tryz.underlying3 hwn),rfl,ux hk _,fun h=>by cases h⟩
theorem front_row:Rows.ParseFrontSaid:=
 OpenClaim.holds_of_wide_leaving 7 Tryz.f7 rfl rfl rfl rfl rfl rfl rfl ⟨rfl,rfl,rfl,rfl,rfl⟩ rfl rfl rfl rfl rfl (by kernel_rfl) Tryz.func7 (by kernel_rfl)
  (of_decide_eq_true (by kernel_rfl)) (by unfold Func.isWrapper;first|(rw[if_pos (by decide+kernel)];kernel_rfl)|(rw[if_neg (by decide+kernel)];exact⟨rfl,rfl⟩))
  (fun os started H enc _=>zbb os started H enc)
theorem front_card:Rows.ParseFrontCardSaid:=
 km .later [.data, .data, .data, .handle, .sentinel, .sentinel, .sentinel] true (true,"074e5f031ab4408176da533a2cefdc3afa561c3d929ccf1498e46e2ed11c108f") true
  front_row (by kernel_rfl) parseFront_row_tie rfl ⟨rfl,rfl⟩ (by kernel_rfl) rfl
  (fun f fn hf hfn=>by
   obtain rfl:f=7:=Option.some.inj ((show Tryz.prog.funcNamed "winnow/winnowlaw03.ParseFront" =some 7 by kernel_rfl).symm.trans hf) |>.symm
   obtain rfl:fn=Tryz.f7:=(Option.some.inj (Tryz.func7.symm.trans hfn)).symm
   exact⟨by kernel_rfl,fun j t ht=>by
    rw[Tryz.params7] at ht
    have hm:t∈[9,3]:=by simpa using Array.mem_of_getElem? ht
    have hall:([9,3].all fun u=>!Tryz.prog.wantsStandIn u)=true:=by kernel_rfl
    exact(show Tryz.prog.wantsStandIn t=false by simpa using List.all_eq_true.1 hall t hm)⟩)
  (by kernel_rfl)
end Go.Proofs.YtonmcakdofbjiaaGreatDoor
