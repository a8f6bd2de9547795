/- A part. -/
import Derived.Test.YtonmcakdofbjiaaGreatDoorK14
import Derived.Test.YtonmcakdofbjiaaGreatDoorK10
import Derived.Deep.Cut
set_option linter.all false
set_option maxRecDepth 100000
set_option maxHeartbeats 8000000
namespace Go.Proofs.YtonmcakdofbjiaaGreatDoor
open Go.RowKit
def yN{α:Type}(p:α->Bool):List α->Option Nat
 |[]=>none
 |x::l=>match yN p l with
  |some i=>some (i+1)
  |none=>if p x then some 0 else none
theorem qD{α:Type}{p:α->Bool}:∀{l:List α},yN p l=none->∀(j:Nat) (x:α),l[j]? =some x->p x=false
 |[],_,j,x,h=>by simp at h
 |y::l,h,j,x,hx=>by
  unfold yN at h
  cases hl:yN p l with
  |some k=>rw[hl] at h;simp at h
  |none=>
   rw[hl] at h
   simp at h
   cases j with
   |zero=>simp at hx;subst hx;exact h
   |succ j=>exact qD hl j x (by simpa using hx)
theorem xx{α:Type}{p:α->Bool}:∀{l:List α} {i:Nat},yN p l=some i->(∃x,l[i]? =some x/\p x=true)/\∀(j:Nat) (x:α),i<j->l[j]? =some x->p x=false
 |[],i,h=>by simp[yN] at h
 |x::l,i,h=>by
  unfold yN at h
  cases hl:yN p l with
  |some k=>
   rw[hl] at h
   simp at h
   subst h
   obtain⟨⟨y,h1,h2⟩,h3⟩:=xx hl
   refine⟨⟨y,by simpa using h1,h2⟩,fun j z hj hz=>?_⟩
   cases j with
   |zero=>omega
   |succ j=>exact h3 j z (by omega) (by simpa using hz)
  |none=>
   rw[hl] at h
   simp at h
   obtain⟨hp,rfl⟩:=h
   have hn:=qD hl
   refine⟨⟨x,rfl,hp⟩,fun j z hj hz=>?_⟩
   cases j with
   |zero=>omega
   |succ j=>exact hn j z (by simpa using hz)
theorem lastIx_of{α:Type}{p:α->Bool}{l:List α}{i:Nat}{x:α}(h1:l[i]? =some x)(h2:p x=true)(h3:∀(j:Nat) (y:α),i<j->l[j]? =some y->p y=false):yN p l=some i:=by
 cases h:yN p l with
 |none=>rw[qD h i x h1] at h2;cases h2
 |some k=>
  obtain⟨⟨y,k1,k2⟩,k3⟩:=xx h
  rcases Nat.lt_trichotomy i k with h'|h'|h'
  ·rw[h3 k y h' k1] at k2;cases k2
  ·rw[h']
  ·rw[k3 i x h' h1] at h2;cases h2
theorem lastIx_of_none{α:Type}{p:α->Bool}{l:List α}(h:∀(j:Nat) (y:α),l[j]? =some y->p y=false):yN p l=none:=by
 cases hl:yN p l with
 |none=>rfl
 |some k=>
  obtain⟨⟨y,k1,k2⟩,_⟩:=xx hl
  rw[h k y k1] at k2;cases k2
theorem lastIx_lt{α:Type}{p:α->Bool}{l:List α}{i:Nat}(h:yN p l=some i):i<l.length:=by
 obtain⟨⟨x,h1,_⟩,_⟩:=xx h
 exact(List.getElem?_eq_some_iff.1 h1).1
def zX(k:Int):Bool:=decide (10<=k)&&decide (k<=15)
def yo(k:Int):Bool:=decide (2<=k)&&decide (k<=8)
def okAt(s:ByteArray)(j:Nat):Bool:=if h:j<s.size then isLetter (s[j]).toNat || (decide (j≠0)&&isDigit (s[j]).toNat) else true
def nameableB(s:ByteArray):Bool:=(List.range s.size).all (okAt s)&&decide (0<s.size)&&decide (s.size<=16)&&!ze s
def fieldsB(n:Nd):Bool:=
 if n.kind=0\/n.kind=2\/n.kind=3\/n.kind=4\/n.kind=12\/n.kind=13 then nameableB n.name&&decide (n.num=0)&&decide (n.op=0)
 else if n.kind=1 then nameableB n.name&&decide (0<=n.num)&&decide (n.op=0)
 else if n.kind=10 then n.name.toList.isEmpty&&decide (0<=n.num)&&decide (n.op=0)
 else if n.kind=11 then n.name.toList.isEmpty&&(decide (n.num=0) || decide (n.num=1))&&decide (n.op=0)
 else if n.kind=14 then n.name.toList.isEmpty&&decide (n.num=0)&&(decide (n.op=1) || decide (n.op=2))
 else if n.kind=15 then n.name.toList.isEmpty&&decide (n.num=0)&&(decide (3<=n.op)&&decide (n.op<=15))
 else if n.kind=5\/n.kind=6\/n.kind=7\/n.kind=8\/n.kind=9 then n.name.toList.isEmpty&&decide (n.num=0)&&decide (n.op=0)
 else false
structure Hold where
 kind:Int
 depth:Int
 wants:List Int
 blocks:Int
def zx(k:Int):List Int:=
 if k=2\/k=5\/k=13\/k=14 then [0] else if k=3\/k=15 then [0,0] else if k=7\/k=8 then [0,1] else []
def qc(o:List Hold):Option Nat:=yN (fun h=>!h.wants.isEmpty) o
def heldIx(o:List Hold)(d:Int):Option Nat:=yN (fun h=>decide (h.depth=d)) o
def cutN{α:Type}(p:α->Bool)(l:List α):Nat:=match yN p l with
 |some i=>i+1
 |none=>0
theorem zcN{α:Type}{p:α->Bool}{l:List α}{k:Nat}(h1:k=0\/∃x,l[k-1]? =some x/\p x=true)(h2:∀(j:Nat) (y:α),k<=j->l[j]? =some y->p y=false):cutN p l=k:=by
 unfold cutN
 rcases h1 with rfl|⟨x,hx,hp⟩
 ·rw[lastIx_of_none fun j y hy=>h2 j y (Nat.zero_le _) hy]
 ·by_cases hk:k=0
  ·subst hk
   rw[h2 0 x (Nat.le_refl _) hx] at hp;cases hp
  ·rw[lastIx_of hx hp fun j y hj hy=>h2 j y (by omega) hy]
   show k-1+1=k
   omega
def popF(d:Int)(o:List Hold):List Hold:=o.take (cutN (fun h=>decide (h.depth<d)) o)
def takeF(o:List Hold)(heads:Bool)(n:Nd):Option (List Hold):=
 match qc o with
 |some w=>match o[w]? with
  |some h=>match h.wants with
   |x::rest=>if n.depth≠h.depth+1\/(x=0/\zX n.kind=false)\/(x=1/\n.kind≠9) then none else some (o.set w {h with wants:=rest,blocks:=if x=1 then h.blocks+1 else h.blocks})
   |[]=>none
  |none=>none
 |none=>
  if n.kind=0\/n.kind=1 then (if n.depth≠1\/heads=false then none else some o)
  else if yo n.kind then
   if n.depth=1 then some o
   else match heldIx o (IntKind.wrap .i64 (n.depth-1)) with
    |some u=>match o[u]? with
     |some h=>if h.kind=9 then some o else none
     |none=>none
    |none=>none
  else if n.kind=9 then
   match heldIx o (IntKind.wrap .i64 (n.depth-1)) with
   |some u=>match o[u]? with
    |some h=>if h.kind=7/\h.blocks=1 then some (o.set u {h with blocks:=h.blocks+1}) else none
    |none=>none
   |none=>none
  else none
def xA(o:List Hold)(heads:Bool)(n:Nd):Option (List Hold×Bool):=
 if fieldsB n=false then none else
 match takeF o heads n with
 |none=>none
 |some o1=>some (popF n.depth o1++[⟨n.kind,n.depth,zx n.kind,0⟩],if n.kind=0\/n.kind=1 then heads else false)
def jY(o:List Hold)(heads:Bool)(i:Nat):List Nd->Int×Int
 |[]=>if (qc o).isSome then (33,i) else (0,0)
 |n::l=>match xA o heads n with
  |none=>(33,i)
  |some (o',h')=>if 24<n.depth then (31,i) else jY o' h' (i+1) l
def ju(l:List Nd):Int×Int:=if 300<l.length then (32,300) else jY [] true 0 l
structure Opn where
 depth:Int
 kind:Int
 has:Int
def rwants(k:Int):Int:=if k=2\/k=5\/k=13\/k=14 then 1 else if k=3\/k=7\/k=8\/k=15 then 2 else 0
def xf(o:Opn)(k:Int):Bool:=
 if o.kind=9 then yo k
 else if o.kind=7 then (decide (o.has=0)&&zX k) || ((decide (o.has=1) || decide (o.has=2))&&decide (k=9))
 else if o.kind=8 then (decide (o.has=0)&&zX k) || (decide (o.has=1)&&decide (k=9))
 else decide (o.has<rwants o.kind)&&zX k
def lacks(t:Opn):Bool:=decide (t.has<rwants t.kind)
def rcut(d:Int)(st:List Opn):Nat:=cutN (fun t=>decide (t.depth<d)) st
def gq(st:List Opn)(begun:Bool)(n:Nd):Option (List Opn×Bool):=
 if (st.drop (rcut n.depth st)).any lacks=true then none
 else if n.depth≠(rcut n.depth st:Int)+1\/fieldsB n=false then none
 else match rcut n.depth st with
  |0=>
   if ((n.kind=0\/n.kind=1)/\begun=true)\/(¬(n.kind=0\/n.kind=1)/\yo n.kind=false) then none
   else some ([],begun || !(decide (n.kind=0\/n.kind=1)))
  |i+1=>match st[i]? with
   |none=>none
   |some t=>if xf t n.kind=false then none else some (st.take i++[{t with has:=t.has+1}],begun)
def kX(st:List Opn)(n:Nd):List Opn:=if 0<rwants n.kind\/n.kind=9 then st++[⟨n.depth,n.kind,0⟩] else st
def zcC(st:List Opn)(begun:Bool)(i:Nat):List Nd->Int×Int
 |[]=>if st.any lacks=true then (33,i) else (0,0)
 |n::l=>match gq st begun n with
  |none=>(33,i)
  |some (st',b')=>if 24<n.depth then (31,i) else zcC (kX st' n) b' (i+1) l
def zkI(l:List Nd):Int×Int:=if 300<l.length then (32,300) else zcC [] false 0 l
def cont(k:Int):Bool:=decide (0<rwants k) || decide (k=9)
inductive St:Hold->Int->Prop
 |one0 (h:Hold) (hk:h.kind=2\/h.kind=5\/h.kind=13\/h.kind=14) (hw:h.wants=[0]):St h 0
 |one1 (h:Hold) (hk:h.kind=2\/h.kind=5\/h.kind=13\/h.kind=14) (hw:h.wants=[]):St h 1
 |two0 (h:Hold) (hk:h.kind=3\/h.kind=15) (hw:h.wants=[0,0]):St h 0
 |two1 (h:Hold) (hk:h.kind=3\/h.kind=15) (hw:h.wants=[0]):St h 1
 |two2 (h:Hold) (hk:h.kind=3\/h.kind=15) (hw:h.wants=[]):St h 2
 |if0 (h:Hold) (hk:h.kind=7) (hw:h.wants=[0,1]) (hb:h.blocks=0):St h 0
 |if1 (h:Hold) (hk:h.kind=7) (hw:h.wants=[1]) (hb:h.blocks=0):St h 1
 |if2 (h:Hold) (hk:h.kind=7) (hw:h.wants=[]) (hb:h.blocks=1):St h 2
 |if3 (h:Hold) (hk:h.kind=7) (hw:h.wants=[]) (hb:h.blocks=2):St h 3
 |while0 (h:Hold) (hk:h.kind=8) (hw:h.wants=[0,1]):St h 0
 |while1 (h:Hold) (hk:h.kind=8) (hw:h.wants=[1]):St h 1
 |while2 (h:Hold) (hk:h.kind=8) (hw:h.wants=[]):St h 2
 |block (h:Hold) (n:Int) (hk:h.kind=9) (hw:h.wants=[]) (hn:0<=n):St h n
structure Good1 (j:Nat) (h:Hold) (r:Opn):Prop where
 hd:h.depth=j+1
 rd:r.depth=j+1
 kd:r.kind=h.kind
 st:St h r.has
 bl:0<=h.blocks/\h.blocks+(h.wants.count 1:Nat)<=2
theorem zi5{b x:Int}{rest:List Int}(h:0<=b/\b+((x::rest).count 1:Nat)<=2):0<=(if x=1 then b+1 else b)/\(if x=1 then b+1 else b)+(rest.count 1:Nat)<=2:=by
 by_cases e:x=1
 ·subst e
  rw[List.count_cons_self] at h
  rw[if_pos rfl]
  omega
 ·rw[List.count_cons_of_ne e] at h
  rw[if_neg e]
  exact h
theorem St.lacks{h:Hold}{r:Opn}(hs:St h r.has)(hk:r.kind=h.kind):lacks r=!h.wants.isEmpty:=by
 unfold Go.Proofs.YtonmcakdofbjiaaGreatDoor.lacks
 rw[hk]
 generalize r.has=x at hs
 cases hs with
 |one0 hk hw=>rcases hk with hk|hk|hk|hk<;>rw[hk,hw]<;>rfl
 |one1 hk hw=>rcases hk with hk|hk|hk|hk<;>rw[hk,hw]<;>rfl
 |two0 hk hw=>rcases hk with hk|hk<;>rw[hk,hw]<;>rfl
 |two1 hk hw=>rcases hk with hk|hk<;>rw[hk,hw]<;>rfl
 |two2 hk hw=>rcases hk with hk|hk<;>rw[hk,hw]<;>rfl
 |if0 hk hw=>rw[hk,hw];rfl
 |if1 hk hw=>rw[hk,hw];rfl
 |if2 hk hw=>rw[hk,hw];rfl
 |if3 hk hw=>rw[hk,hw];rfl
 |while0 hk hw=>rw[hk,hw];rfl
 |while1 hk hw=>rw[hk,hw];rfl
 |while2 hk hw=>rw[hk,hw];rfl
 |block _ hk hw hn=>
  rw[hk,hw]
  have:¬x<rwants 9:=by show ¬x<0;omega
  simp[this]
structure Cr (c:List Hold) (st:List Opn):Prop where
 len:st.length=c.length
 good:∀(j:Nat) (h:Hold) (r:Opn),c[j]? =some h->st[j]? =some r->Good1 j h r
 above:∀(i j:Nat) (h g:Hold),i<j->c[i]? =some h->h.wants≠[]->c[j]? =some g->zX g.kind=true
theorem Cr.take{c:List Hold}{st:List Opn}(h:Cr c st)(k:Nat):Cr (c.take k) (st.take k):=by
 have e1:∀{α:Type} (l:List α) (j:Nat) (x:α),(l.take k)[j]? =some x->l[j]? =some x:=fun l j x hx=>by
  rw[List.getElem?_take] at hx
  split at hx
  ·exact hx
  ·cases hx
 exact⟨by simp[h.len],fun j a b ha hb=>h.good j a b (e1 _ _ _ ha) (e1 _ _ _ hb),fun i j a b hij ha hw hb=>h.above i j a b hij (e1 _ _ _ ha) hw (e1 _ _ _ hb)⟩
theorem Cr.push{c:List Hold}{st:List Opn}(h:Cr c st)(a:Hold)(r:Opn)(hg:Good1 c.length a r)(hab:∀(i:Nat) (b:Hold),c[i]? =some b->b.wants≠[]->zX a.kind=true):Cr (c++[a]) (st++[r]):=by
 have split1:∀{α:Type} (l:List α) (y:α) (j:Nat) (x:α),(l++[y])[j]? =some x->(j<l.length/\l[j]? =some x)\/(j=l.length/\x=y):=fun l y j x hx=>by
  by_cases hj:j<l.length
  ·rw[List.getElem?_append_left hj] at hx;exact .inl ⟨hj,hx⟩
  ·rw[List.getElem?_append_right (by omega)] at hx
   have:j-l.length=0:=by
    rcases Nat.eq_zero_or_pos (j-l.length) with h0|h0
    ·exact h0
    ·rw[List.getElem?_eq_none (by simp;omega)] at hx;cases hx
   rw[this] at hx
   exact .inr ⟨by omega,by simpa using hx.symm⟩
 refine⟨by simp[h.len],fun j x y hx hy=>?_,fun i j x y hij hx hw hy=>?_⟩
 ·rcases split1 _ _ _ _ hx with⟨h1,h2⟩|⟨h1,rfl⟩
  ·rcases split1 _ _ _ _ hy with⟨h3,h4⟩|⟨h3,rfl⟩
   ·exact h.good j x y h2 h4
   ·have:=h.len;omega
  ·rcases split1 _ _ _ _ hy with⟨h3,h4⟩|⟨h3,rfl⟩
   ·have:=h.len;omega
   ·rw[h1];exact hg
 ·rcases split1 _ _ _ _ hy with⟨h1,h2⟩|⟨h1,rfl⟩
  ·rcases split1 _ _ _ _ hx with⟨h3,h4⟩|⟨h3,rfl⟩
   ·exact h.above i j x y hij h4 hw h2
   ·omega
  ·rcases split1 _ _ _ _ hx with⟨h3,h4⟩|⟨h3,rfl⟩
   ·exact hab i x h4 hw
   ·omega
theorem cut_depth{α:Type}(f:α->Int)(l:List α)(hl:∀(j:Nat) (x:α),l[j]? =some x->f x=j+1)(d:Int):cutN (fun x=>decide (f x<d)) l=min l.length (d-1).toNat:=by
 refine zcN ?_ fun j y hj hy=>?_
 ·rcases Nat.eq_zero_or_pos (min l.length (d-1).toNat) with h|h
  ·exact .inl h
  ·right
   have hlt:min l.length (d-1).toNat-1<l.length:=by omega
   refine⟨l[min l.length (d-1).toNat-1],List.getElem?_eq_getElem hlt,?_⟩
   have:=hl _ _ (List.getElem?_eq_getElem hlt)
   exact decide_eq_true (by omega)
 ·have:=hl _ _ hy
  have:=(List.getElem?_eq_some_iff.1 hy).1
  exact decide_eq_false (by omega)
structure ShI (o:List Hold) (heads:Bool) (st:List Opn) (begun:Bool):Prop where
 open_:∃c lf,o=c++lf/\Cr c st/\(lf=[]\/∃h,lf=[h]/\h.wants=[]/\h.depth=c.length+1/\cont h.kind=false/\h.blocks=0)
 heads:heads=!begun
 beg:st≠[]->begun=true
theorem ShI.start:ShI [] true [] false:=⟨⟨[],[],rfl,⟨rfl,fun j h r hh=>by simp at hh,fun i j h g _ hh=>by simp at hh⟩, .inl rfl⟩,rfl,fun h=>absurd rfl h⟩
section
variable {o:List Hold} {heads begun:Bool} {st:List Opn}
theorem ShI.depth(h:ShI o heads st begun):∀(j:Nat) (x:Hold),o[j]? =some x->x.depth=j+1:=by
 obtain⟨⟨c,lf,rfl,hc,hlf⟩,_⟩:=h
 intro j x hx
 by_cases hj:j<c.length
 ·rw[List.getElem?_append_left hj] at hx
  have hs:j<st.length:=by rw[hc.len];exact hj
  exact(hc.good j x _ hx (List.getElem?_eq_getElem hs)).hd
 ·rw[List.getElem?_append_right (by omega)] at hx
  rcases hlf with rfl|⟨g,rfl,h1,h2,_⟩
  ·simp at hx
  ·cases hk:j-c.length with
   |zero=>rw[hk] at hx;simp at hx;subst hx;rw[h2];omega
   |succ m=>rw[hk] at hx;simp at hx
theorem ShI.small(h:ShI o heads st begun):∀(j:Nat) (x:Hold),o[j]? =some x->0<=x.blocks/\x.blocks<=2:=by
 obtain⟨⟨c,lf,rfl,hc,hlf⟩,_⟩:=h
 intro j x hx
 by_cases hj:j<c.length
 ·rw[List.getElem?_append_left hj] at hx
  have hs:j<st.length:=by rw[hc.len];exact hj
  have:=(hc.good j x _ hx (List.getElem?_eq_getElem hs)).bl
  omega
 ·rw[List.getElem?_append_right (by omega)] at hx
  rcases hlf with rfl|⟨g,rfl,h1,h2,h3,h4⟩
  ·simp at hx
  ·cases hk:j-c.length with
   |zero=>rw[hk] at hx;simp at hx;subst hx;rw[h4];decide
   |succ m=>rw[hk] at hx;simp at hx
theorem ShI.rdepth(h:ShI o heads st begun):∀(j:Nat) (x:Opn),st[j]? =some x->x.depth=j+1:=by
 obtain⟨⟨c,lf,rfl,hc,hlf⟩,_⟩:=h
 intro j x hx
 have hs:j<c.length:=by rw[<-hc.len];exact(List.getElem?_eq_some_iff.1 hx).1
 exact(hc.good j _ x (List.getElem?_eq_getElem hs) hx).rd
theorem ShI.rcut(h:ShI o heads st begun)(d:Int):rcut d st=min st.length (d-1).toNat:=by
 unfold Go.Proofs.YtonmcakdofbjiaaGreatDoor.rcut
 exact cut_depth (fun t:Opn=>t.depth) st h.rdepth d
theorem any_lacks{c:List Hold}{st:List Opn}(h:Cr c st)(k:Nat):(st.drop k).any lacks=true↔∃(j:Nat) (g:Hold),k<=j/\c[j]? =some g/\g.wants≠[]:=by
 rw[List.any_eq_true]
 constructor
 ·rintro⟨r,hr,hl⟩
  obtain⟨j,hj,rfl⟩:=List.getElem_of_mem hr
  simp only[List.length_drop] at hj
  have hlen:=h.len
  have hc:k+j<c.length:=by omega
  have hs:k+j<st.length:=by omega
  refine⟨k+j,c[k+j],by omega,List.getElem?_eq_getElem hc,fun e=>?_⟩
  have hg:=h.good (k+j) _ _ (List.getElem?_eq_getElem hc) (List.getElem?_eq_getElem hs)
  rw[List.getElem_drop,hg.st.lacks hg.kd,e] at hl
  cases hl
 ·rintro⟨j,g,hj,hg,hw⟩
  have hc:=(List.getElem?_eq_some_iff.1 hg).1
  have hs:j<st.length:=by rw[h.len];exact hc
  have hgd:=h.good j g _ hg (List.getElem?_eq_getElem hs)
  refine⟨st[j],List.mem_iff_getElem?.2 ⟨j-k,?_⟩,?_⟩
  ·rw[List.getElem?_drop,show k+(j-k)=j from by omega];exact List.getElem?_eq_getElem hs
  ·rw[hgd.st.lacks hgd.kd]
   cases hgw:g.wants with
   |nil=>exact absurd hgw hw
   |cons _ _=>rfl
theorem uv{h:Hold}{r:Opn}(hs:St h r.has)(hk:r.kind=h.kind)(hw:h.wants=[])(k:Int):xf r k=((decide (h.kind=9)&&yo k) || (decide (h.kind=7/\h.blocks=1)&&decide (k=9))):=by
 unfold xf
 rw[hk]
 generalize r.has=x at hs
 cases hs with
 |one0 hk hw'=>rw[hw] at hw';cases hw'
 |one1 hk hw'=>rcases hk with hk|hk|hk|hk<;>rw[hk]<;>simp[rwants]
 |two0 hk hw'=>rw[hw] at hw';cases hw'
 |two1 hk hw'=>rw[hw] at hw';cases hw'
 |two2 hk hw'=>rcases hk with hk|hk<;>rw[hk]<;>simp[rwants]
 |if0 hk hw'=>rw[hw] at hw';cases hw'
 |if1 hk hw'=>rw[hw] at hw';cases hw'
 |if2 hk hw' hb=>rw[hk,hb];simp
 |if3 hk hw' hb=>rw[hk,hb];simp
 |while0 hk hw'=>rw[hw] at hw';cases hw'
 |while1 hk hw'=>rw[hw] at hw';cases hw'
 |while2 hk hw'=>rw[hk];simp
 |block _ hk hw' hn=>rw[hk];simp
theorem vi{k:Int}(h:cont k=false):zx k=[]/\¬(0<rwants k\/k=9)/\k≠7/\k≠9:=by
 unfold cont at h
 simp only[Bool.or_eq_false_iff,decide_eq_false_iff_not] at h
 obtain⟨h1,h2⟩:=h
 unfold rwants at h1
 unfold zx
 refine⟨?_,?_,?_,h2⟩
 ·split at h1
  ·exact absurd (by decide) h1
  ·rename_i a
   rw[if_neg a]
   split at h1
   ·exact absurd (by decide) h1
   ·rename_i b
    rw[if_neg (by omega),if_neg (by omega)]
 ·unfold rwants;simp only[not_or];exact⟨h1,h2⟩
 ·rintro rfl;exact h1 (by decide)
theorem new_good{k d:Int}(hc:cont k=true)(j:Nat)(hd:d=j+1):Good1 j ⟨k,d,zx k,0⟩ ⟨d,k,0⟩:=by
 have hbl:(0:Int)<=0/\(0:Int)+((zx k).count 1:Nat)<=2:=by
  unfold zx
  split
  ·decide
  ·split
   ·decide
   ·split<;>decide
 refine⟨hd,hd,rfl,?_,hbl⟩
 unfold cont rwants at hc
 simp only[Bool.or_eq_true,decide_eq_true_eq] at hc
 by_cases h1:k=2\/k=5\/k=13\/k=14
 ·exact .one0 _ h1 (by simp[zx,h1])
 ·by_cases h2:k=3\/k=15
  ·exact .two0 _ h2 (by simp[zx,h1,h2])
  ·by_cases h3:k=7
   ·subst h3;exact .if0 _ rfl rfl rfl
   ·by_cases h4:k=8
    ·subst h4;exact .while0 _ rfl rfl
    ·by_cases h5:k=9
     ·subst h5;exact .block _ _ rfl rfl (Int.le_refl _)
     ·exfalso
      rw[if_neg h1,if_neg (by omega)] at hc
      omega
theorem ShI.behind{c:List Hold}{st':List Opn}(hc:Cr c st')(n:Nd)(hd:n.depth=c.length+1)(hab:cont n.kind=true->∀(i:Nat) (b:Hold),c[i]? =some b->b.wants≠[]->zX n.kind=true){heads' begun':Bool}(hh:heads'=!begun')(hb:c≠[]\/cont n.kind=true->begun'=true):
 ShI (c++[⟨n.kind,n.depth,zx n.kind,0⟩]) heads' (kX st' n) begun':=by
 unfold kX
 cases hk:cont n.kind with
 |true=>
  have e:0<rwants n.kind\/n.kind=9:=by unfold cont at hk;simpa using hk
  rw[if_pos e]
  exact⟨⟨_,[],by simp,hc.push _ _ (new_good hk _ hd) (hab hk), .inl rfl⟩,hh,fun _=>hb (.inr hk)⟩
 |false=>
  obtain⟨h1,h2,_⟩:=vi hk
  rw[if_neg h2]
  refine⟨⟨c,_,rfl,hc, .inr ⟨_,rfl,h1,hd,hk,rfl⟩⟩,hh,fun hs=>hb (.inl ?_)⟩
  rintro rfl
  exact hs (List.eq_nil_of_length_eq_zero hc.len)
def Same(x:Option (List Hold×Bool))(y:Option (List Opn×Bool))(n:Nd):Prop:=
 (x=none/\y=none)\/∃o' h' st' b',x=some (o',h')/\y=some (st',b')/\(o'.length:Int)=n.depth/\ShI o' h' (kX st' n) b'
theorem take_last{α:Type}{l:List α}{i:Nat}{x:α}(h:l[i]? =some x):l.take (i+1)=l.take i++[x]:=by
 rw[List.take_add_one,h];rfl
theorem zc9(h:ShI o heads st begun)(ho:o.length<=24)(n:Nd)(hlo: -9223372036854775808<=n.depth)(hhi:n.depth<=9223372036854775807):Same (xA o heads n) (gq st begun n) n:=by
 unfold xA gq
 cases hf:fieldsB n with
 |false=>left;simp
 |true=>
  simp only[Bool.true_eq_false,if_false,or_false]
  have hdep:=h.depth
  have hrd:=h.rdepth
  have hhd:=h.heads
  have hbg:=h.beg
  rw[h.rcut n.depth]
  obtain⟨⟨c,lf,rfl,hc,hlf⟩,_,_⟩:=id h
  have hlen:=hc.len
  have hcut:∀o1:List Hold,(∀(j:Nat) (x:Hold),o1[j]? =some x->x.depth=j+1)->popF n.depth o1=o1.take (min o1.length (n.depth-1).toNat):=fun o1 h1=>by
   unfold popF
   rw[cut_depth (fun x:Hold=>x.depth) o1 h1]
  have hlw:∀(j:Nat) (x:Hold),c.length<=j->(c++lf)[j]? =some x->x.wants=[]/\cont x.kind=false:=fun j x hj hx=>by
   rw[List.getElem?_append_right hj] at hx
   rcases hlf with rfl|⟨g,rfl,h1,_,h2⟩
   ·simp at hx
   ·cases hk:j-c.length with
    |zero=>rw[hk] at hx;simp at hx;subst hx;exact⟨h1,h2.1⟩
    |succ m=>rw[hk] at hx;simp at hx
  have hcl:c.length<=(c++lf).length:=by simp
  have hlfl:(c++lf).length<=c.length+1:=by
   rcases hlf with rfl|⟨g,rfl,_⟩<;>simp
  cases hwi:qc (c++lf) with
  |some w=>
   obtain⟨⟨g,hg,hgw⟩,hbe⟩:=xx hwi
   have hgw':g.wants≠[]:=by intro e;rw[e] at hgw;cases hgw
   have hwc:w<c.length:=by
    rcases Nat.lt_or_ge w c.length with h'|h'
    ·exact h'
    ·exact absurd (hlw w g h' hg).1 hgw'
   have hcg:c[w]? =some g:=by rw[List.getElem?_append_left hwc] at hg;exact hg
   have hsw:st[w]? =some st[w]:=List.getElem?_eq_getElem (by omega)
   generalize hr:st[w]=r at hsw
   have hG:=hc.good w g r hcg hsw
   have hbeh:∀(j:Nat) (x:Hold),w<j->c[j]? =some x->x.wants=[]/\zX x.kind=true:=fun j x hj hx=>by
    have hjl:=(List.getElem?_eq_some_iff.1 hx).1
    have:=hbe j x hj (by rw[List.getElem?_append_left hjl];exact hx)
    refine⟨?_,hc.above w j g x hj hcg hgw' hx⟩
    cases hxw:x.wants with
    |nil=>rfl
    |cons _ _=>rw[hxw] at this;cases this
   have hb1:begun=true:=hbg (by rintro rfl;simp at hlen;omega)
   have hgd:=hG.hd
   unfold takeF
   simp only[hwi,hg]
   obtain⟨x,rest,hxr⟩:∃x rest,g.wants=x::rest:=by
    cases hgw2:g.wants with
    |nil=>exact absurd hgw2 hgw'
    |cons x rest=>exact⟨x,rest,rfl⟩
   simp only[hxr]
   by_cases hd:n.depth=w+2
   ·have hk:min st.length (n.depth-1).toNat=w+1:=by omega
    have hnl:((st.drop (w+1)).any lacks=true)=False:=by
     apply eq_false
     rw[any_lacks hc]
     rintro⟨j,y,h1,h2,h3⟩
     exact h3 (hbeh j y (by omega) h2).1
    rw[hk]
    simp only[hnl,if_false,hsw]
    rw[if_neg (show ¬(n.depth≠((w+1:Nat):Int)+1) by omega)]
    have hdg:(n.depth≠g.depth+1)=False:=by apply eq_false;omega
    simp only[hdg,false_or]
    have acc:∀(g':Hold) (r':Opn),g'.kind=g.kind->Good1 w g' r'->n.kind≠0->n.kind≠1->(cont n.kind=true->zX n.kind=true\/(g'.wants=[]/\∀(i:Nat) (b:Hold),i<w->c[i]? =some b->b.wants=[]))->
     ∃o' h' st' b',some (popF n.depth ((c++lf).set w g')++[⟨n.kind,n.depth,zx n.kind,0⟩],if n.kind=0\/n.kind=1 then heads else false)=some (o',h')/\some (st.take w++[r'],begun)=some (st',b')/\(o'.length:Int)=n.depth/\ShI o' h' (kX st' n) b':=by
     intro g' r' hgk hG' h0 h1 hcase
     refine⟨_,_,_,_,rfl,rfl,?_⟩
     have e1:popF n.depth ((c++lf).set w g')=c.take w++[g']:=by
      rw[hcut _ fun j y hy=>?_]
      ·have e2:min ((c++lf).set w g').length (n.depth-1).toNat=w+1:=by rw[List.length_set];omega
       rw[e2]
       have e3:((c++lf).set w g')[w]? =some g':=by rw[List.getElem?_set_self (by simp;omega)]
       rw[take_last e3,List.take_set_of_le (by omega)]
       rw[List.take_append_of_le_length (by omega)]
      ·rw[List.getElem?_set] at hy
       split at hy
       ·rename_i e
        split at hy
        ·cases hy;subst e;exact hG'.hd
        ·cases hy
       ·exact hdep j y hy
     rw[e1,if_neg (by omega)]
     have hcw:(c.take w).length=w:=by simp;omega
     have hC:Cr (c.take w++[g']) (st.take w++[r']):=by
      refine(hc.take w).push g' r' (by rw[hcw];exact hG') fun i b hb hbw=>?_
      have hiw:i<w:=by have:=(List.getElem?_eq_some_iff.1 hb).1;omega
      rw[List.getElem?_take,if_pos hiw] at hb
      rw[hgk]
      exact hc.above i w b g hiw hb hbw hcg
     refine⟨by simp;omega,ShI.behind hC n (by simp;omega) ?_ (by rw[hb1];rfl) fun _=>hb1⟩
     intro hk2 i b hb hbw
     rcases hcase hk2 with h'|⟨h1',h2'⟩
     ·exact h'
     ·exfalso
      by_cases hi:i<w
      ·rw[List.getElem?_append_left (by omega),List.getElem?_take,if_pos hi] at hb
       exact hbw (h2' i b hi hb)
      ·have hl:=(List.getElem?_eq_some_iff.1 hb).1
       simp at hl
       have:i=w:=by omega
       subst this
       rw[List.getElem?_append_right (by omega),hcw] at hb
       simp at hb
       subst hb
       exact hbw h1'
    have ex:∀(g':Hold) (r':Opn),x=0->xf r n.kind=zX n.kind->g'={g with wants:=rest,blocks:=if x=1 then g.blocks+1 else g.blocks}->r'={r with has:=r.has+1}->Good1 w g' r'->
     Same (match (if (x=0/\zX n.kind=false)\/(x=1/\n.kind≠9) then none else some ((c++lf).set w {g with wants:=rest,blocks:=if x=1 then g.blocks+1 else g.blocks})) with
      |none=>none
      |some o1=>some (popF n.depth o1++[⟨n.kind,n.depth,zx n.kind,0⟩],if n.kind=0\/n.kind=1 then heads else false)) (if xf r n.kind=false then none else some (st.take w++[{r with has:=r.has+1}],begun)) n:=by
     rintro g' r' rfl hrh rfl rfl hG'
     rw[hrh]
     cases he:zX n.kind with
     |false=>left;simp
     |true=>
      right
      have hke:10<=n.kind:=by unfold zX at he;simp at he;exact he.1
      have:=acc {g with wants:=rest,blocks:=if (0:Int)=1 then g.blocks+1 else g.blocks} {r with has:=r.has+1} rfl hG' (by omega) (by omega) fun _=> .inl he
      simpa using this
    have bl:∀(g':Hold) (r':Opn),x=1->rest=[]->(g.kind=7\/g.kind=8)->xf r n.kind=decide (n.kind=9)->g'={g with wants:=rest,blocks:=if x=1 then g.blocks+1 else g.blocks}->r'={r with has:=r.has+1}->Good1 w g' r'->
     Same (match (if (x=0/\zX n.kind=false)\/(x=1/\n.kind≠9) then none else some ((c++lf).set w {g with wants:=rest,blocks:=if x=1 then g.blocks+1 else g.blocks})) with
      |none=>none
      |some o1=>some (popF n.depth o1++[⟨n.kind,n.depth,zx n.kind,0⟩],if n.kind=0\/n.kind=1 then heads else false)) (if xf r n.kind=false then none else some (st.take w++[{r with has:=r.has+1}],begun)) n:=by
     rintro g' r' rfl rfl hgk hrh rfl rfl hG'
     rw[hrh]
     by_cases he:n.kind=9
     ·right
      have:=acc {g with wants:=[],blocks:=if (1:Int)=1 then g.blocks+1 else g.blocks} {r with has:=r.has+1} rfl hG' (by omega) (by omega) fun _=> .inr ⟨rfl,fun i b hi hb=>by
       rcases Classical.em (b.wants=[]) with h'|h'
       ·exact h'
       ·have:=hc.above i w b g hi hb h' hcg
        unfold zX at this
        simp at this
        omega⟩
      simpa [he] using this
     ·left;simp[he]
    have hst:=hG.st
    have hbl:=hG.bl
    rw[hxr] at hbl
    have hbl:=zi5 hbl
    have hkd:=hG.kd
    have hrdw:=hG.rd
    clear acc
    obtain⟨rd,rk,rh⟩:=r
    simp only at hkd hrdw hst
    subst hkd
    cases hst with
    |one0 hk2 hw2=>
     rw[hxr] at hw2
     obtain⟨rfl,rfl⟩:x=0/\rest=[]:=by simpa using hw2
     refine ex _ _ rfl ?_ rfl rfl ⟨hgd,hrdw,rfl, .one1 _ hk2 rfl,hbl⟩
     unfold xf
     rcases hk2 with hk2|hk2|hk2|hk2<;>rw[hk2]<;>simp[rwants]
    |one1 hk2 hw2=>rw[hxr] at hw2;cases hw2
    |two0 hk2 hw2=>
     rw[hxr] at hw2
     obtain⟨rfl,rfl⟩:x=0/\rest=[0]:=by simpa using hw2
     refine ex _ _ rfl ?_ rfl rfl ⟨hgd,hrdw,rfl, .two1 _ hk2 rfl,hbl⟩
     unfold xf
     rcases hk2 with hk2|hk2<;>rw[hk2]<;>simp[rwants]
    |two1 hk2 hw2=>
     rw[hxr] at hw2
     obtain⟨rfl,rfl⟩:x=0/\rest=[]:=by simpa using hw2
     refine ex _ _ rfl ?_ rfl rfl ⟨hgd,hrdw,rfl, .two2 _ hk2 rfl,hbl⟩
     unfold xf
     rcases hk2 with hk2|hk2<;>rw[hk2]<;>simp[rwants]
    |two2 hk2 hw2=>rw[hxr] at hw2;cases hw2
    |if0 hk2 hw2 hb2=>
     rw[hxr] at hw2
     obtain⟨rfl,rfl⟩:x=0/\rest=[1]:=by simpa using hw2
     refine ex _ _ rfl ?_ rfl rfl ⟨hgd,hrdw,rfl, .if1 _ hk2 rfl (by simpa using hb2),hbl⟩
     unfold xf
     rw[hk2];simp
    |if1 hk2 hw2 hb2=>
     rw[hxr] at hw2
     obtain⟨rfl,rfl⟩:x=1/\rest=[]:=by simpa using hw2
     refine bl _ _ rfl rfl (.inl hk2) ?_ rfl rfl ⟨hgd,hrdw,rfl, .if2 _ hk2 rfl (by simp[hb2]),hbl⟩
     unfold xf
     rw[hk2];simp
    |if2 hk2 hw2=>rw[hxr] at hw2;cases hw2
    |if3 hk2 hw2=>rw[hxr] at hw2;cases hw2
    |while0 hk2 hw2=>
     rw[hxr] at hw2
     obtain⟨rfl,rfl⟩:x=0/\rest=[1]:=by simpa using hw2
     refine ex _ _ rfl ?_ rfl rfl ⟨hgd,hrdw,rfl, .while1 _ hk2 rfl,hbl⟩
     unfold xf
     rw[hk2];simp
    |while1 hk2 hw2=>
     rw[hxr] at hw2
     obtain⟨rfl,rfl⟩:x=1/\rest=[]:=by simpa using hw2
     refine bl _ _ rfl rfl (.inr hk2) ?_ rfl rfl ⟨hgd,hrdw,rfl, .while2 _ hk2 rfl,hbl⟩
     unfold xf
     rw[hk2];simp
    |while2 hk2 hw2=>rw[hxr] at hw2;cases hw2
    |block _ hk2 hw2=>rw[hxr] at hw2;cases hw2
   ·left
    refine⟨by rw[if_pos (.inl (by omega))],?_⟩
    generalize hkk:min st.length (n.depth-1).toNat=k
    split
    ·rfl
    ·rename_i hnl
     rw[any_lacks hc] at hnl
     split
     ·rfl
     ·rename_i hdk
      have hdk:n.depth=k+1:=by omega
      have hwk:w<k:=by
       rcases Nat.lt_or_ge w k with h'|h'
       ·exact h'
       ·exact absurd ⟨w,g,h',hcg,hgw'⟩ hnl
      cases k with
      |zero=>omega
      |succ i=>
       have hi:i<c.length:=by omega
       have hci:c[i]? =some c[i]:=List.getElem?_eq_getElem hi
       have hsi:st[i]? =some st[i]:=List.getElem?_eq_getElem (by omega)
       generalize c[i]=g2 at hci
       generalize st[i]=r2 at hsi
       have hG2:=hc.good i g2 r2 hci hsi
       have hb2:=hbeh i g2 (by omega) hci
       simp only[hsi]
       rw[uv hG2.st hG2.kd hb2.1]
       have:=hb2.2
       unfold zX at this
       simp at this
       have e9:g2.kind≠9:=by omega
       have e7:¬(g2.kind=7/\g2.blocks=1):=by omega
       simp[e9,e7]
  |none=>
   have hnw:∀(j:Nat) (x:Hold),c[j]? =some x->x.wants=[]:=fun j x hx=>by
    have hjl:=(List.getElem?_eq_some_iff.1 hx).1
    have:=qD hwi j x (by rw[List.getElem?_append_left hjl];exact hx)
    cases hxw:x.wants with
    |nil=>rfl
    |cons _ _=>rw[hxw] at this;cases this
   have hnl:∀k,((st.drop k).any lacks=true)=False:=fun k=>by
    apply eq_false
    rw[any_lacks hc]
    rintro⟨j,y,h1,h2,h3⟩
    exact h3 (hnw j y h2)
   simp only[hnl,if_false]
   unfold takeF
   simp only[hwi]
   generalize hkk:min st.length (n.depth-1).toNat=k
   have top:∀i:Nat,k=i+1->n.depth=i+2->∃g r,c[i]? =some g/\st[i]? =some r/\Good1 i g r/\xf r n.kind=((decide (g.kind=9)&&yo n.kind) || (decide (g.kind=7/\g.blocks=1)&&decide (n.kind=9))):=by
    intro i hi hdi
    have hic:i<c.length:=by omega
    have hci:c[i]? =some c[i]:=List.getElem?_eq_getElem hic
    have hsi:st[i]? =some st[i]:=List.getElem?_eq_getElem (by omega)
    have hG2:=hc.good i _ _ hci hsi
    exact⟨_,_,hci,hsi,hG2,uv hG2.st hG2.kd (hnw i _ hci) n.kind⟩
   have put:∀(i:Nat) (g':Hold) (r':Opn) (o1:List Hold),n.depth=i+2->i<c.length->(o1=c++lf/\c[i]? =some g'\/o1=(c++lf).set i g'/\(∃g,c[i]? =some g/\g'.kind=g.kind))->Good1 i g' r'->g'.wants=[]->n.kind≠0->n.kind≠1->
    ∃o' h' st' b',some (popF n.depth o1++[⟨n.kind,n.depth,zx n.kind,0⟩],if n.kind=0\/n.kind=1 then heads else false)=some (o',h')/\some (st.take i++[r'],begun)=some (st',b')/\(o'.length:Int)=n.depth/\ShI o' h' (kX st' n) b':=by
    intro i g' r' o1 hdi hic ho1 hG' hw' h0 h1
    have hb1:begun=true:=hbg (by rintro rfl;simp at hlen;omega)
    refine⟨_,_,_,_,rfl,rfl,?_⟩
    have hdo:∀(j:Nat) (y:Hold),o1[j]? =some y->y.depth=j+1:=by
     rcases ho1 with⟨rfl,_⟩|⟨rfl,_⟩
     ·exact hdep
     ·intro j y hy
      rw[List.getElem?_set] at hy
      split at hy
      ·rename_i e
       split at hy
       ·cases hy;subst e;exact hG'.hd
       ·cases hy
      ·exact hdep j y hy
    have hl1:o1.length=(c++lf).length:=by rcases ho1 with⟨rfl,_⟩|⟨rfl,_⟩<;>simp
    have e1:popF n.depth o1=c.take i++[g']:=by
     rw[hcut _ hdo]
     have e2:min o1.length (n.depth-1).toNat=i+1:=by rw[hl1];simp;omega
     rw[e2]
     rcases ho1 with⟨rfl,hcg⟩|⟨rfl,_⟩
     ·rw[List.take_append_of_le_length (by omega),take_last hcg]
     ·have e3:((c++lf).set i g')[i]? =some g':=by rw[List.getElem?_set_self (by simp;omega)]
      rw[take_last e3,List.take_set_of_le (by omega),List.take_append_of_le_length (by omega)]
    rw[e1,if_neg (by omega)]
    have hcw:(c.take i).length=i:=by simp;omega
    have hC:Cr (c.take i++[g']) (st.take i++[r']):=by
     refine(hc.take i).push g' r' (by rw[hcw];exact hG') fun j b hb hbw=>?_
     have hj:j<i:=by have:=(List.getElem?_eq_some_iff.1 hb).1;omega
     rw[List.getElem?_take,if_pos hj] at hb
     exact absurd (hnw j b hb) hbw
    refine⟨by simp;omega,ShI.behind hC n (by simp;omega) ?_ (by rw[hb1];rfl) fun _=>hb1⟩
    intro hk2 j b hb hbw
    exfalso
    by_cases hj:j<i
    ·rw[List.getElem?_append_left (by omega),List.getElem?_take,if_pos hj] at hb
     exact hbw (hnw j b hb)
    ·have hl:=(List.getElem?_eq_some_iff.1 hb).1
     simp at hl
     have:j=i:=by omega
     subst this
     rw[List.getElem?_append_right (by omega),hcw] at hb
     simp at hb
     subst hb
     exact hbw hw'
   have first:∀(b' h':Bool),n.depth=1->h'=!b'->(cont n.kind=true->b'=true)->∃o' h2 st' b2,some (popF n.depth (c++lf)++[⟨n.kind,n.depth,zx n.kind,0⟩],h')=some (o',h2)/\some (([]:List Opn),b')=some (st',b2)/\(o'.length:Int)=n.depth/\ShI o' h2 (kX st' n) b2:=by
    intro b' h' hd1 hh' hb'
    have e1:popF n.depth (c++lf)=[]:=by
     rw[hcut _ hdep,show min (c++lf).length (n.depth-1).toNat=0 from by omega];rfl
    refine⟨_,_,_,_,rfl,rfl,?_⟩
    rw[e1]
    refine⟨by simp;omega,ShI.behind (c:=[]) ⟨rfl,fun j h r hh=>by simp at hh,fun i j h g _ hh=>by simp at hh⟩ n (by simp;omega) (fun _ i b hb=>by simp at hb) hh' fun hx=>?_⟩
    rcases hx with hx|hx
    ·exact absurd rfl hx
    ·exact hb' hx
   have held:∀u:Nat,heldIx (c++lf) (IntKind.wrap .i64 (n.depth-1))=some u->n.depth=u+2/\u<(c++lf).length:=by
    intro u hu
    obtain⟨⟨y,h1,h2⟩,_⟩:=xx hu
    have hy:=hdep u y h1
    have hul:=(List.getElem?_eq_some_iff.1 h1).1
    have h2:y.depth=IntKind.wrap .i64 (n.depth-1):=by simpa using h2
    rw[hy] at h2
    refine⟨?_,hul⟩
    simp only[IntKind.wrap,IntKind.signed,IntKind.bits] at h2
    simp at h2
    split at h2<;>omega
   have notheld:heldIx (c++lf) (IntKind.wrap .i64 (n.depth-1))=none->2<=n.depth->((c++lf).length:Int)+1<n.depth:=by
    intro hu hd2
    rcases Int.lt_or_le ((c++lf).length+1:Int) n.depth with h'|h'
    ·exact h'
    ·exfalso
     have hlt:(n.depth-2).toNat<(c++lf).length:=by omega
     have:=qD hu _ _ (List.getElem?_eq_getElem hlt)
     have hy:=hdep _ _ (List.getElem?_eq_getElem hlt)
     rw[hy] at this
     have hw2:IntKind.wrap .i64 (n.depth-1)=n.depth-1:=by
      simp only[IntKind.wrap,IntKind.signed,IntKind.bits]
      simp
      split<;>omega
     rw[hw2] at this
     simp at this
     omega
   by_cases h01:n.kind=0\/n.kind=1
   ·simp only[h01,if_true,true_and,not_true,false_and,or_false]
    by_cases hd1:n.depth=1
    ·have hk0:k=0:=by omega
     subst hk0
     rw[if_neg (show ¬(n.depth≠((0:Nat):Int)+1) by omega)]
     dsimp only
     rw[hhd]
     cases begun with
     |true=>left;constructor<;>simp
     |false=>
      right
      have hcn:cont n.kind=false:=by rcases h01 with e|e<;>rw[e]<;>rfl
      have:=first false true hd1 rfl (by rw[hcn];intro h;cases h)
      rw[if_neg (show ¬(n.depth≠1\/(!false)=false) by simp[hd1])]
      simpa using this
    ·left
     refine⟨by simp[hd1],?_⟩
     split
     ·rfl
     ·rename_i hdk
      cases k with
      |zero=>exact absurd (by omega) hd1
      |succ i=>
       obtain⟨g,r,h1,h2,h3,h4⟩:=top i rfl (by omega)
       dsimp only
       rw[h2]
       dsimp only
       have e1:yo n.kind=false:=by rcases h01 with e|e<;>rw[e]<;>rfl
       have e2:¬n.kind=9:=by omega
       rw[h4]
       simp[e1,e2]
   ·simp only[h01,if_false,false_and,not_false_eq_true,true_and,false_or]
    by_cases hs:yo n.kind=true
    ·have hs2:2<=n.kind/\n.kind<=8:=by unfold yo at hs;simpa using hs
     simp only[hs,if_true,Bool.true_eq_false,if_false]
     by_cases hd1:n.depth=1
     ·have hk0:k=0:=by omega
      subst hk0
      rw[if_neg (show ¬(n.depth≠((0:Nat):Int)+1) by omega),if_pos hd1]
      right
      have:=first true false hd1 rfl fun _=>rfl
      simpa using this
     ·simp only[hd1,if_false]
      cases hh:heldIx (c++lf) (IntKind.wrap .i64 (n.depth-1)) with
      |none=>
       left
       refine⟨rfl,?_⟩
       have:=notheld hh
       rw[if_pos (by omega)]
      |some u=>
       obtain⟨hdu,hul⟩:=held u hh
       have huo:(c++lf)[u]? =some (c++lf)[u]:=List.getElem?_eq_getElem hul
       by_cases huc:u<c.length
       ·have hku:k=u+1:=by omega
        obtain⟨g,r,h1,h2,h3,h4⟩:=top u hku (by omega)
        have h1':(c++lf)[u]? =some g:=by rw[List.getElem?_append_left huc];exact h1
        rw[hku,if_neg (by omega)]
        dsimp only
        rw[h1',h2]
        dsimp only
        rw[h4]
        by_cases h9:g.kind=9
        ·right
         have hG':Good1 u g {r with has:=r.has+1}:=by
          refine⟨h3.hd,h3.rd,h3.kd,?_,h3.bl⟩
          have hst:=h3.st
          show St g (r.has+1)
          generalize r.has=x at hst⊢
          cases hst with
          |block _ a b c=>exact .block _ _ a b (by omega)
          |one0 a _=>omega
          |one1 a _=>omega
          |two0 a _=>omega
          |two1 a _=>omega
          |two2 a _=>omega
          |if0 a _ _=>omega
          |if1 a _ _=>omega
          |if2 a _ _=>omega
          |if3 a _ _=>omega
          |while0 a _=>omega
          |while1 a _=>omega
          |while2 a _=>omega
         have:=put u g _ _ hdu huc (.inl ⟨rfl,h1⟩) hG' (hnw u g h1) (by omega) (by omega)
         simpa [h9,hs,h01] using this
        ·left
         have e9:¬n.kind=9:=by omega
         simp[h9,e9]
       ·left
        have hx:=hlw u _ (by omega) huo
        have h9:=(vi hx.2).2.2.2
        dsimp only
        rw[huo]
        dsimp only
        refine⟨by rw[if_neg h9],?_⟩
        rw[if_pos (by omega)]
    ·have hs':yo n.kind=false:=by simpa using hs
     simp only[hs',Bool.false_eq_true,if_false,if_true]
     by_cases h9:n.kind=9
     ·simp only[h9,if_true]
      cases hh:heldIx (c++lf) (IntKind.wrap .i64 (n.depth-1)) with
      |none=>
       left
       refine⟨rfl,?_⟩
       have:=notheld hh
       split
       ·rfl
       ·rename_i hdk
        cases k with
        |zero=>rfl
        |succ i=>exact absurd (this (by omega)) (by omega)
      |some u=>
       obtain⟨hdu,hul⟩:=held u hh
       have huo:(c++lf)[u]? =some (c++lf)[u]:=List.getElem?_eq_getElem hul
       by_cases huc:u<c.length
       ·have hku:k=u+1:=by omega
        obtain⟨g,r,h1,h2,h3,h4⟩:=top u hku (by omega)
        have h1':(c++lf)[u]? =some g:=by rw[List.getElem?_append_left huc];exact h1
        rw[hku,if_neg (by omega)]
        dsimp only
        rw[h1',h2]
        dsimp only
        rw[h9] at h4
        rw[h4]
        by_cases h7:g.kind=7/\g.blocks=1
        ·right
         have hG':Good1 u {g with blocks:=g.blocks+1} {r with has:=r.has+1}:=by
          refine⟨h3.hd,h3.rd,h3.kd,?_,by have:=hnw u g h1;show 0<=g.blocks+1/\g.blocks+1+(g.wants.count 1:Nat)<=2;rw[this,h7.2];decide⟩
          have hst:=h3.st
          show St _ (r.has+1)
          generalize r.has=x at hst⊢
          cases hst with
          |if2 a b c=>exact .if3 _ a b (by show g.blocks+1=2;omega)
          |if3 a b c=>omega
          |if0 a b c=>omega
          |if1 a b c=>omega
          |block _ a _ _=>omega
          |one0 a _=>omega
          |one1 a _=>omega
          |two0 a _=>omega
          |two1 a _=>omega
          |two2 a _=>omega
          |while0 a _=>omega
          |while1 a _=>omega
          |while2 a _=>omega
         have:=put u {g with blocks:=g.blocks+1} _ _ hdu huc (.inr ⟨rfl,g,h1,rfl⟩) hG' (hnw u g h1) (by omega) (by omega)
         have e:yo 9=false:=rfl
         simpa [h7,h9,e] using this
        ·left
         have e:yo 9=false:=rfl
         simp[h7,e]
       ·left
        have hx:=hlw u _ (by omega) huo
        have h7:=(vi hx.2).2.2.1
        dsimp only
        rw[huo]
        dsimp only
        refine⟨by rw[if_neg (by omega)],?_⟩
        rw[if_pos (by omega)]
     ·simp only[h9,if_false]
      left
      refine⟨rfl,?_⟩
      split
      ·rfl
      ·rename_i hdk
       cases k with
       |zero=>rfl
       |succ i=>
        obtain⟨g,r,h1,h2,h3,h4⟩:=top i rfl (by omega)
        dsimp only
        rw[h2]
        dsimp only
        rw[h4]
        simp[hs',h9]
end
theorem isExpr_any(x:Int)(w:World):Calls Tryz.prog 96 #[.int .i64 x] w fun e w'=>e= .returned (.bool (zX x))/\w'=w:=by
 go_enter Tryz.func96,Tryz.ntmps96
 go_wp2
 all_goals
  go_ret
  refine⟨?_,rfl⟩
  show Ending.returned (.bool _)=Ending.returned (.bool _)
  refine congrArg _ (congrArg _ ?_)
  rw[Bool.eq_iff_iff]
  simp[zX]
  try omega
theorem isStmt_any(x:Int)(w:World):Calls Tryz.prog 98 #[.int .i64 x] w fun e w'=>e= .returned (.bool (yo x))/\w'=w:=by
 go_enter Tryz.func98,Tryz.ntmps98
 go_wp2
 all_goals
  go_ret
  refine⟨?_,rfl⟩
  show Ending.returned (.bool _)=Ending.returned (.bool _)
  refine congrArg _ (congrArg _ ?_)
  rw[Bool.eq_iff_iff]
  simp[yo]
  try omega
def wantsV(n:Nat)(l:List Int):Value:=if l=[] then .slice none 0 0 else .slice (some ⟨n,0,none⟩) l.length l.length
def wantsW(w:World)(l:List Int):World:=if l=[] then w else w.alloc (.cells (l.map (Value.int .i64)).toArray 3)
theorem zcX(x:Int)(w:World):Calls Tryz.prog 99 #[.int .i64 x] w fun e w'=>e= .returned (wantsV w.heap.size (zx x))/\w'=wantsW w (zx x):=by
 go_enter Tryz.func99,Tryz.ntmps99
 go_wp2
 all_goals
  go_ret
  simp_all [wantsV,wantsW,zx]
theorem kC{s:ByteArray}{k:Nat}(hk:k<s.size)(h:okAt s k=false):nameableB s=false:=by
 have:(List.range s.size).all (okAt s)=false:=by
  rw[Bool.eq_false_iff]
  intro ha
  rw[List.all_eq_true] at ha
  rw[ha k (List.mem_range.2 hk)] at h
  cases h
 simp[nameableB,this]
theorem nameable_all{s:ByteArray}(h:∀j,j<s.size->okAt s j=true):nameableB s=(decide (0<s.size)&&decide (s.size<=16)&&!ze s):=by
 have:(List.range s.size).all (okAt s)=true:=by
  rw[List.all_eq_true]
  exact fun j hj=>h j (List.mem_range.1 hj)
 simp[nameableB,this]
theorem ut(s:ByteArray):s.toList.length=s.size:=by
 rw[ByteArray.toList_eq]
 simp
theorem jS{s:ByteArray}{k:Nat}(h:k<s.size):okAt s k=(isLetter (s[k]).toNat || (decide (k≠0)&&isDigit (s[k]).toNat)):=by
 unfold okAt
 rw[dif_pos h]
theorem zaZ(s:ByteArray)(hs:s.size<=140737488355328)(w:World):Calls Tryz.prog 133 #[.string s] w fun e w'=>e= .returned (.bool (nameableB s))/\w'=w:=by
 go_enter Tryz.func133,Tryz.ntmps133
 go_wp2
 go_loop [3] (fun c=>∃k:Nat,k<=s.size/\c= .int .i64 k/\∀j:Nat,j<k->okAt s j=true) (fun c=>s.size-(intOf c).toNat)
 case atStart=>exact⟨0,Nat.zero_le _,rfl,fun j h=>absurd h (Nat.not_lt_zero _)⟩
 case round=>
  obtain⟨k,h2,rfl,h3⟩:=hrel
  by_cases hlt:k<s.size
  ·by_cases h95:(((s[k]).toNat:Int)==95)=true
   ·have e95:((s[k]).toNat:Int)=95:=eq_of_beq h95
    go_wp2_with (go_at_call 156;refine(qi _ _).mono ?_;rintro e w' ⟨rfl,rfl⟩)
    all_goals first
     |(refine⟨⟨k+1,by omega,by first|go_num|(simp;done)|(simp;omega),fun j hj=>?_⟩,by simp[intOf];omega⟩
       by_cases e:j=k
       ·subst e
        rw[jS hlt]
        simp only[isLetter,isDigit,Bool.or_eq_true,Bool.and_eq_true,decide_eq_true_eq,ne_eq]
        omega
       ·exact h3 j (by omega))
     |(go_ret
       have hno:okAt s k=false:=by
        (rw[jS hlt]
         refine Bool.eq_false_iff.2 fun hh=>?_
         simp only[isLetter,isDigit,Bool.or_eq_true,Bool.and_eq_true,decide_eq_true_eq,ne_eq,not_true_eq_false,false_and,or_false,not_false_eq_true,true_and] at hh
         omega)
       (refine⟨?_,rfl⟩);(have e:=kC hlt hno);(simp[e]))
     |(exfalso;simp only[Bool.not_eq_false',Bool.not_eq_true',decide_eq_true_eq,decide_eq_false_iff_not,h95] at*;omega)
   ·have h95:(((s[k]).toNat:Int)==95)=false:=by simpa using h95
    have e95:((s[k]).toNat:Int)≠95:=by simpa using h95
    by_cases hk0:k=0
    ·subst hk0
     go_wp2_with (go_at_call 156;refine(qi _ _).mono ?_;rintro e w' ⟨rfl,rfl⟩)
     all_goals first
      |(refine⟨⟨0+1,by omega,by first|go_num|(simp;done)|(simp;omega),fun j hj=>?_⟩,by simp[intOf];omega⟩
        by_cases e:j=0
        ·subst e
         rw[jS hlt]
         simp only[isLetter,isDigit,Bool.or_eq_true,Bool.and_eq_true,decide_eq_true_eq,ne_eq]
         omega
        ·exact h3 j (by omega))
      |(go_ret
        have hno:okAt s 0=false:=by
         (rw[jS hlt]
          refine Bool.eq_false_iff.2 fun hh=>?_
          simp only[isLetter,isDigit,Bool.or_eq_true,Bool.and_eq_true,decide_eq_true_eq,ne_eq,not_true_eq_false,false_and,or_false,not_false_eq_true,true_and] at hh
          omega)
        (refine⟨?_,rfl⟩);(have e:=kC hlt hno);(simp[e]))
      |(exfalso;simp only[Bool.not_eq_false',Bool.not_eq_true',decide_eq_true_eq,decide_eq_false_iff_not,h95] at*;omega)
    ·have hb:((k:Int)==0)=false:=by simp[hk0]
     go_wp2_with (go_at_call 156;refine(qi _ _).mono ?_;rintro e w' ⟨rfl,rfl⟩)
     all_goals first
      |(refine⟨⟨k+1,by omega,by first|go_num|(simp;done)|(simp;omega),fun j hj=>?_⟩,by simp[intOf];omega⟩
        by_cases e:j=k
        ·subst e
         rw[jS hlt]
         simp only[isLetter,isDigit,Bool.or_eq_true,Bool.and_eq_true,decide_eq_true_eq,ne_eq]
         omega
        ·exact h3 j (by omega))
      |(go_ret
        have hno:okAt s k=false:=by
         (rw[jS hlt]
          refine Bool.eq_false_iff.2 fun hh=>?_
          simp only[isLetter,isDigit,Bool.or_eq_true,Bool.and_eq_true,decide_eq_true_eq,ne_eq,not_true_eq_false,false_and,or_false,not_false_eq_true,true_and] at hh
          omega)
        (refine⟨?_,rfl⟩);(have e:=kC hlt hno);(simp[e]))
      |(exfalso;simp only[Bool.not_eq_false',Bool.not_eq_true',decide_eq_true_eq,decide_eq_false_iff_not,h95] at*;omega)
  ·have e:=nameable_all (s:=s) (fun j hj=>h3 j (by omega))
   clear h3
   go_wp2_with (go_at_call 156;refine(qi _ _).mono ?_;rintro e w' ⟨rfl,rfl⟩)
   ·go_ret
    have hl:s.toList.length=s.size:=ut s
    have h0:s.toList=[]:=by assumption
    rw[h0] at hl
    refine⟨?_,rfl⟩
    have e0:s.size=0:=hl.symm
    simp[e,e0]
   ·go_ret
    have hl:s.toList.length=s.size:=ut s
    have hp:0<s.size:=by
     rcases Nat.eq_zero_or_pos s.size with h|h
     ·rw[h] at hl
      exact absurd (List.eq_nil_of_length_eq_zero hl) (by assumption)
     ·exact h
    have h16:s.size<=16:=by omega
    refine⟨?_,rfl⟩
    have hne:¬s.toList=[]:=by assumption
    simp[e,hp,h16,hne]
   ·go_ret
    have h16:¬s.size<=16:=by omega
    refine⟨?_,rfl⟩
    simp[e,h16]
theorem Kin.alloc{w w':World}(h:Kin w w')(o:Obj):Kin w (w'.alloc o):=by
 have g:=World.grownBy_alloc w' o none
 have s:=g.size
 have s2:=h.size
 exact⟨h.os,h.out,by omega,fun k hk=>(g.block k (by omega) (by simp)).trans (h.block k hk)⟩
theorem Kin.drewN{w w':World}(h:Kin w w')(n:Nat):Kin w (w'.drewN n):=⟨h.os,h.out,h.size,h.block⟩
theorem beq_dec(a b:Int):(a==b)=decide (a=b):=by
 rw[Bool.eq_iff_iff]
 simp
theorem zdV(n:Nd)(hs:n.name.size<=140737488355328)(w:World):Calls Tryz.prog 95 #[.agg n.cells.toArray] w fun e w'=>e= .returned (.bool (fieldsB n))/\Kin w w':=by
 obtain⟨depth,kind,name,num,op,at_⟩:=n
 have hn:=zaZ name hs
 simp only[Nd.cells]
 by_cases h1:kind=1
 ·subst h1
  go_enter Tryz.func95,Tryz.ntmps95
  go_wp2_with fail
  go_quiet (fail)
  go_wp2_with fail
  have kW:Kin w ((w.alloc (Obj.cells #[Value.int IntKind.i64 depth,Value.int IntKind.i64 1,Value.string name,Value.int IntKind.i64 num,Value.int IntKind.i64 op,Value.int IntKind.i64 at_] 50)).drewN nq):=((Kin.refl w).alloc _).drewN _
  have c2:((w.alloc (Obj.cells #[Value.int IntKind.i64 depth,Value.int IntKind.i64 1,Value.string name,Value.int IntKind.i64 num,Value.int IntKind.i64 op,Value.int IntKind.i64 at_] 50)).drewN nq).cell? ⟨w.heap.size,2,none⟩=some (.string name):=by simp[go_sem]
  have c3:((w.alloc (Obj.cells #[Value.int IntKind.i64 depth,Value.int IntKind.i64 1,Value.string name,Value.int IntKind.i64 num,Value.int IntKind.i64 op,Value.int IntKind.i64 at_] 50)).drewN nq).cell? ⟨w.heap.size,3,none⟩=some (.int .i64 num):=by simp[go_sem]
  generalize ((w.alloc (Obj.cells #[Value.int IntKind.i64 depth,Value.int IntKind.i64 1,Value.string name,Value.int IntKind.i64 num,Value.int IntKind.i64 op,Value.int IntKind.i64 at_] 50)).drewN nq)=W at kW c2 c3⊢
  go_quiet ((go_at_call 133;exact Calls.quiet_of_same (hn _)))
  go_wp2
  all_goals
   go_ret
   refine⟨?_,kW.drewN _⟩
   simp_all [fieldsB]
   try (first|exact beq_dec _ _|omega|(simp only[beq_dec];rw[Bool.eq_iff_iff];simp;omega))
 ·have hk1:(kind==1)=false:=by simp[h1]
  go_enter Tryz.func95,Tryz.ntmps95
  go_wp2_with fail
  go_quiet (fail)
  go_wp2_with (go_at_call 133;refine(hn _).mono ?_;rintro e w' ⟨rfl,rfl⟩)
  all_goals
   go_ret
   refine⟨?_,((Kin.refl w).alloc _).drewN _⟩
   simp_all [fieldsB]
   try (first|exact beq_dec _ _|omega|(simp only[beq_dec];rw[Bool.eq_iff_iff];simp;omega))
def kws:List ByteArray:=[{data:= #[118,97,114]},{data:= #[97,114,114,97,121]},{data:= #[105,110,112,117,116]},{data:= #[97,115,115,101,114,116]},{data:= #[115,107,105,112]},{data:= #[105,102]},{data:= #[101,108,115,101]},{data:= #[119,104,105,108,101]},{data:= #[116,114,117,101]},{data:= #[102,97,108,115,101]}]
def jT:Array Value:= #[.string {data:= #[118,97,114]}, .string {data:= #[97,114,114,97,121]}, .string {data:= #[105,110,112,117,116]}, .string {data:= #[97,115,115,101,114,116]}, .string {data:= #[115,107,105,112]}, .string {data:= #[105,102]}, .string {data:= #[101,108,115,101]}, .string {data:= #[119,104,105,108,101]}, .string {data:= #[116,114,117,101]}, .string {data:= #[102,97,108,115,101]}]
def kwAt(k:Nat):ByteArray:=kws[k]?.getD {data:= #[]}
theorem zha:∀k,k<10->jT[k]? =some (.string (kwAt k))
 |0,_=>rfl
 |1,_=>rfl
 |2,_=>rfl
 |3,_=>rfl
 |4,_=>rfl
 |5,_=>rfl
 |6,_=>rfl
 |7,_=>rfl
 |8,_=>rfl
 |9,_=>rfl
 |n+10,h=>absurd h (by omega)
theorem vE(s:ByteArray):ze s=(List.range 10).any fun k=>((kwAt k).toList==s.toList):=by
 have e0:(kwAt 0).toList=[118,97,114]:=by kernel_rfl
 have e1:(kwAt 1).toList=[97,114,114,97,121]:=by kernel_rfl
 have e2:(kwAt 2).toList=[105,110,112,117,116]:=by kernel_rfl
 have e3:(kwAt 3).toList=[97,115,115,101,114,116]:=by kernel_rfl
 have e4:(kwAt 4).toList=[115,107,105,112]:=by kernel_rfl
 have e5:(kwAt 5).toList=[105,102]:=by kernel_rfl
 have e6:(kwAt 6).toList=[101,108,115,101]:=by kernel_rfl
 have e7:(kwAt 7).toList=[119,104,105,108,101]:=by kernel_rfl
 have e8:(kwAt 8).toList=[116,114,117,101]:=by kernel_rfl
 have e9:(kwAt 9).toList=[102,97,108,115,101]:=by kernel_rfl
 have hr:List.range 10=[0,1,2,3,4,5,6,7,8,9]:=by decide
 rw[hr,Bool.eq_iff_iff]
 simp only[ze,List.any_cons,List.any_nil,e0,e1,e2,e3,e4,e5,e6,e7,e8,e9,Bool.or_eq_true,beq_iff_eq,Bool.or_false]
 simp only[eq_comm]
theorem ziG(w:World)(k:Nat)(hk:k<10):(w.alloc (.cells jT 9)).cell? ⟨w.heap.size,k,none⟩=some (.string (kwAt k)):=by
 rw[World.cell?_alloc_at _ _ _ _ rfl]
 exact zha k hk
theorem zb4(s:ByteArray)(w:World):Calls Tryz.prog 134 #[.string s] w fun e w'=>e= .returned (.bool (ze s))/\Kin w w':=by
 have K1:=Lib.hid ((Kin.refl w).alloc (.cells jT 9))
 have HC:=Lib.hid (ziG w)
 unfold jT at K1 HC
 generalize hR:ze s=R
 have HR:=Lib.hid hR
 clear hR
 go_enter Tryz.func134,Tryz.ntmps134
 go_wp2
 go_loopg [4] 10 (fun g x wq=>∃k:Nat,x= .int .i64 k/\k<=10/\g=10-k/\(∀j,j<k->((kwAt j).toList==s.toList)=false)/\wq=w.alloc (.cells jT 9))
 case atStart=>exact⟨0,rfl,by omega,rfl,fun j hj=>by omega,rfl⟩
 case round=>
  obtain⟨k,rfl,hk,hg,hn,rfl⟩:=hrel
  have HG:=Lib.hid hg
  have HN:=Lib.hid hn
  clear hg hn
  unfold jT
  by_cases hlt:k<10
  ·have hc:=HC.out k hlt
   generalize hkw:kwAt k=t at hc
   have HKW:=Lib.hid hkw
   clear hkw
   by_cases he:(t.toList==s.toList)=true
   ·have hRt:R=true:=by
     rw[<-HR.out,vE,List.any_eq_true]
     exact⟨k,List.mem_range.2 hlt,by rw[HKW.out];exact he⟩
    subst hRt
    go_wp2_with fail
    go_ret
    exact⟨rfl,K1.out⟩
   ·have he:(t.toList==s.toList)=false:=by simpa using he
    go_wp2_with fail
    go_roundg (10-(k+1))
    case measure=>have:=HG.out;omega
    case rel=>
     refine⟨k+1,by simp,by omega,rfl,fun j hj=>?_,rfl⟩
     by_cases e:j=k
     ·subst e;rw[HKW.out];exact he
     ·exact HN.out j (by omega)
  ·have hk10:k=10:=by omega
   subst hk10
   have hRf:R=false:=by
    rw[<-HR.out,vE,List.any_eq_false]
    intro j hj
    rw[HN.out j (List.mem_range.1 hj)]
    simp
   subst hRf
   go_wp2_with fail
   go_ret
   exact⟨rfl,K1.out⟩
theorem rletter_any(x:Int)(w:World):Calls Tryz.prog 124 #[.int .u8 x] w fun e w'=>e= .returned (.bool (isLetter x))/\w'=w:=by
 go_enter Tryz.func124,Tryz.ntmps124
 go_wp2
 all_goals
  go_ret
  refine⟨?_,rfl⟩
  show Ending.returned (.bool _)=Ending.returned (.bool _)
  refine congrArg _ (congrArg _ ?_)
  rw[Bool.eq_iff_iff]
  simp[isLetter]
  try omega
theorem yQ(x:Int)(w:World):Calls Tryz.prog 125 #[.int .u8 x] w fun e w'=>e= .returned (.bool (isDigit x))/\w'=w:=by
 go_enter Tryz.func125,Tryz.ntmps125
 go_wp2
 all_goals
  go_ret
  refine⟨?_,rfl⟩
  show Ending.returned (.bool _)=Ending.returned (.bool _)
  refine congrArg _ (congrArg _ ?_)
  rw[Bool.eq_iff_iff]
  simp[isDigit]
  try omega
theorem kZ(x:Int)(w:World):Calls Tryz.prog 123 #[.int .u8 x] w fun e w'=>e= .returned (.bool (zT x))/\w'=w:=by
 go_enter Tryz.func123,Tryz.ntmps123
 go_wp2
 all_goals
  go_ret
  refine⟨?_,rfl⟩
  show Ending.returned (.bool _)=Ending.returned (.bool _)
  refine congrArg _ (congrArg _ ?_)
  rw[Bool.eq_iff_iff]
  simp[zT]
  try omega
def zfY(s:ByteArray)(i k:Nat):Prop:=∃h:i<s.size,(zT (s[i]).toNat=true/\k=i+1)\/(zT (s[i]).toNat=false/\(s[i]).toNat=35/\Upto isLine s i k)\/(zT (s[i]).toNat=false/\(s[i]).toNat≠35/\k=i)
theorem zd3(s:ByteArray)(i:Nat)(w:World)(hi:i<s.size)(hs:s.size<=8796093022207):
 Calls Tryz.prog 86 #[.string s, .int .i64 i] w fun e w'=>(∃k:Nat,zfY s i k/\e= .returned (.int .i64 k))/\w'=w:=by
 go_enter Tryz.func86,Tryz.ntmps86
 cases hb:zT (s[i]).toNat with
 |true=>
  go_wp2_with (go_at_call 123;with_reducible refine(kZ _ _).mono ?_;rintro e w' ⟨rfl,he⟩;obtain rfl:=he.symm)
  go_ret
  exact⟨⟨i+1,⟨hi, .inl ⟨hb,rfl⟩⟩,by simp⟩,rfl⟩
 |false=>
  by_cases h35:(s[i]).toNat=35
  ·have hd:(((s[i]).toNat:Int)!=35)=false:=by simp[h35]
   go_wp2_with (go_at_call 123;with_reducible refine(kZ _ _).mono ?_;rintro e w' ⟨rfl,he⟩;obtain rfl:=he.symm)
   go_loop [1] (fun c=>∃k:Nat,i<=k/\k<=s.size/\c= .int .i64 k/\∀(j:Nat) (h:j<s.size),i<=j->j<k->isLine s[j].toNat=true)
    (fun c=>s.size-(intOf c).toNat)
   case atStart=>exact⟨i,Nat.le_refl _,by omega,rfl,fun j _ h1 h2=>by omega⟩
   case round=>
    obtain⟨k,h1,h2,rfl,h3⟩:=hrel
    by_cases hlt:k<s.size
    ·by_cases hk:(s[k]).toNat=10
     ·have hd2:(((s[k]).toNat:Int)!=10)=false:=by simp[hk]
      go_wp2_with fail
      go_ret
      exact⟨⟨k,⟨hi, .inr (.inl ⟨hb,h35,h1,h2,h3,fun _=>by simp[isLine,hk]⟩)⟩,rfl⟩,rfl⟩
     ·have hd2:(((s[k]).toNat:Int)!=10)=true:=by simp;omega
      go_wp2_with fail
      go_round
      case rel=>
       refine⟨k+1,by omega,by omega,by go_num,fun j hj a b=>?_⟩
       by_cases e:j=k
       ·subst e;simp only[isLine];exact hd2
       ·exact h3 j hj a (by omega)
      case measure=>simp[intOf];omega
    ·go_wp2_with fail
     go_ret
     exact⟨⟨k,⟨hi, .inr (.inl ⟨hb,h35,h1,h2,h3,fun h=>absurd h hlt⟩)⟩,rfl⟩,rfl⟩
  ·have hd:(((s[i]).toNat:Int)!=35)=true:=by simp;omega
   go_wp2_with (go_at_call 123;with_reducible refine(kZ _ _).mono ?_;rintro e w' ⟨rfl,he⟩;obtain rfl:=he.symm)
   go_ret
   exact⟨⟨i,⟨hi, .inr (.inr ⟨hb,h35,rfl⟩)⟩,rfl⟩,rfl⟩
def digitsN:List UInt8->Nat->Nat
 |[],a=>a
 |c::r,a=>digitsN r (a*10+(c.toNat-48))
theorem vU(x:ByteArray)(k:Nat):(x.extract k x.size).data.toList=x.data.toList.drop k:=by
 rw[ByteArray.data_extract,Array.toList_extract]
 simp[List.extract]
 rw[List.take_of_length_le]
 simp
def wA:List UInt8:=[57,50,50,51,51,55,50,48,51,54,56,53,52,55,55,53,56,48,55]
def Dg(c:UInt8):Prop:=48<=c.toNat/\c.toNat<=57
theorem kH:∀(l:List UInt8) (a:Nat),digitsN l a=a*10 ^ l.length+digitsN l 0
 |[],a=>by simp[digitsN]
 |c::r,a=>by
  unfold digitsN
  rw[kH r (a*10+(c.toNat-48)),kH r (0*10+(c.toNat-48)),List.length_cons,Nat.pow_succ]
  simp only[Nat.add_mul,Nat.zero_mul,Nat.zero_add]
  rw[Nat.mul_assoc,Nat.mul_comm 10 (10 ^ r.length),Nat.add_assoc]
theorem qX(c:UInt8)(r:List UInt8):digitsN (c::r) 0=(c.toNat-48)*10 ^ r.length+digitsN r 0:=by
 conv=>lhs;unfold digitsN
 rw[kH,Nat.zero_mul,Nat.zero_add]
theorem jN:∀(l:List UInt8),(∀c∈l,Dg c)->digitsN l 0<10 ^ l.length
 |[],_=>by simp[digitsN]
 |c::r,h=>by
  have h1:=jN r (fun d hd=>h d (List.mem_cons_of_mem _ hd))
  have h2:=h c (List.mem_cons_self ..)
  unfold Dg at h2
  rw[qX,List.length_cons,Nat.pow_succ]
  have:(c.toNat-48)*10 ^ r.length<=9*10 ^ r.length:=Nat.mul_le_mul_right _ (by omega)
  omega
theorem zdY{c:UInt8}{r:List UInt8}(hc:48<c.toNat):10 ^ r.length<=digitsN (c::r) 0:=by
 rw[qX]
 have:1*10 ^ r.length<=(c.toNat-48)*10 ^ r.length:=Nat.mul_le_mul_right _ (by omega)
 omega
theorem zav(k:Nat)(l:List UInt8):digitsN (List.replicate k 48++l) 0=digitsN l 0:=by
 induction k with
 |zero=>rfl
 |succ k ih=>rw[List.replicate_succ,List.cons_append];conv=>lhs;unfold digitsN
             exact ih
theorem wC:∀(a b:List UInt8),a.length=b.length->(∀c∈a,Dg c)->(∀c∈b,Dg c)->(Op.bytesLess a b || a==b)=decide (digitsN a 0<=digitsN b 0)
 |[],[],_,_,_=>by simp[Op.bytesLess,digitsN]
 |c::r,d::t,hl,ha,hb=>by
  have hl':r.length=t.length:=by simpa using hl
  have ih:=wC r t hl' (fun x hx=>ha x (List.mem_cons_of_mem _ hx)) (fun x hx=>hb x (List.mem_cons_of_mem _ hx))
  have hc:=ha c (List.mem_cons_self ..)
  have hd:=hb d (List.mem_cons_self ..)
  have l1:=jN r (fun x hx=>ha x (List.mem_cons_of_mem _ hx))
  have l2:=jN t (fun x hx=>hb x (List.mem_cons_of_mem _ hx))
  unfold Dg at hc hd
  rw[qX,qX,hl']
  rw[hl'] at l1
  rcases Nat.lt_trichotomy c.toNat d.toNat with h|h|h
  ·have e:(c.toNat-48+1)*10 ^ t.length<=(d.toNat-48)*10 ^ t.length:=Nat.mul_le_mul_right _ (by omega)
   rw[Nat.add_mul] at e
   have hlt:c<d:=UInt8.lt_iff_toNat_lt.2 h
   rw[decide_eq_true (by omega)]
   simp[Op.bytesLess,hlt]
  ·have e:c=d:=UInt8.toNat_inj.1 h
   subst e
   have e2:decide ((c.toNat-48)*10 ^ t.length+digitsN r 0<=(c.toNat-48)*10 ^ t.length+digitsN t 0)=decide (digitsN r 0<=digitsN t 0):=by
    rw[decide_eq_decide];omega
   rw[e2,<-ih]
   simp[Op.bytesLess]
  ·have e:(d.toNat-48+1)*10 ^ t.length<=(c.toNat-48)*10 ^ t.length:=Nat.mul_le_mul_right _ (by omega)
   rw[Nat.add_mul] at e
   have hlt:d<c:=UInt8.lt_iff_toNat_lt.2 h
   have hne:¬c<d:=fun h'=>by have:=UInt8.lt_iff_toNat_lt.1 h';omega
   have hne2:c≠d:=by rintro rfl;omega
   rw[decide_eq_false (by omega)]
   simp[Op.bytesLess,hlt,hne,hne2]
 |[],_::_,h,_,_=>by simp at h
 |_::_,[],h,_,_=>by simp at h
theorem zg6:∀c∈wA,Dg c:=by
 unfold Dg;decide
theorem ziB:digitsN wA 0=9223372036854775807:=by decide
theorem vV{s x:List UInt8}{k:Nat}(hx:s=List.replicate k 48++x)(hd:∀c∈s,Dg c):digitsN s 0=digitsN x 0/\∀c∈x,Dg c:=
 ⟨by rw[hx,zav],fun c hc=>hd c (by rw[hx];exact List.mem_append_right _ hc)⟩
theorem zgF{l:List UInt8}(hd:∀c∈l,Dg c)(h:l.length=19):(Op.bytesLess l wA || l==wA)=decide (digitsN l 0<9223372036854775808):=by
 rw[wC l wA (by rw[h];rfl) hd zg6,ziB,decide_eq_decide]
 omega
theorem small_short{l:List UInt8}(hd:∀c∈l,Dg c)(h:l.length<19):digitsN l 0<9223372036854775808:=by
 have h1:=jN l hd
 have h2:10 ^ l.length<=10 ^ 18:=Nat.pow_le_pow_right (by decide) (by omega)
 have h3:10 ^ 18<9223372036854775808:=by decide
 omega
theorem zdi{c:UInt8}{r:List UInt8}(hc:48<c.toNat)(h:19<(c::r).length):¬digitsN (c::r) 0<9223372036854775808:=by
 have h1:=zdY (r:=r) hc
 have h2:10 ^ 19<=10 ^ r.length:=Nat.pow_le_pow_right (by decide) (by simp at h;omega)
 have h3:9223372036854775808<10 ^ 19:=by decide
 omega
theorem za3{x:ByteArray}(h:0<x.size):∃r,x.data.toList=x[0]::r:=by
 obtain⟨⟨l⟩⟩:=x
 cases l with
 |nil=>simp[ByteArray.size] at h
 |cons c r=>exact⟨r,rfl⟩
theorem zeH(s:ByteArray)(w:World)(hs:s.size<=8796093022207)(hdig:∀c∈s.data.toList,Dg c):
 Calls Tryz.prog 126 #[.string s] w fun e w'=>e= .returned (.bool (decide (digitsN s.data.toList 0<9223372036854775808)))/\w'=w:=by
 have HD:=Lib.hid hdig
 clear hdig
 generalize hR:decide (digitsN s.data.toList 0<9223372036854775808)=R
 have HR:=Lib.hid hR
 clear hR
 go_enter Tryz.func126,Tryz.ntmps126
 go_wp2_with fail
 go_loopg [0] s.size (fun g c wq=>∃(x:ByteArray) (k:Nat),c= .string x/\s.data.toList=List.replicate k 48++x.data.toList/\g=x.size/\wq=w)
 case atStart=>exact⟨s,0,rfl,rfl,rfl,rfl⟩
 case round=>
  obtain⟨x,k,rfl,hx,hg,rfl⟩:=hrel
  have HG:=Lib.hid hg
  have HX:=Lib.hid hx
  have HXS:=Lib.hid (show x.data.toList.length=x.size from Array.length_toList)
  clear hg hx
  by_cases h0:0<x.size
  ·obtain⟨r,hr⟩:=za3 h0
   have HRR:=Lib.hid hr
   clear hr
   by_cases hz:(x[0]).toNat=48
   ·have hd:(((x[0]).toNat:Int)==48)=true:=by simp[hz]
    go_wp2_with fail
    go_roundg (x.size-1)
    case measure=>have:=HG.out;omega
    case rel=>
     refine⟨_,k+1,rfl,?_,?_,rfl⟩
     ·rw[vU,HX.out,HRR.out,UInt8.toNat_inj.1 (show(x[0]).toNat=(48:UInt8).toNat from hz),List.replicate_succ',List.append_assoc]
      rfl
     ·have e:(x.extract 1 x.size).size=(x.extract 1 x.size).data.toList.length:=Array.length_toList.symm
      rw[e]
      have:=congrArg List.length (vU x 1)
      rw[List.length_drop,HXS.out] at this
      exact this.symm
   ·have hd:(((x[0]).toNat:Int)==48)=false:=by simp;omega
    obtain⟨q1,q2⟩:=vV HX.out HD.out
    by_cases h19:x.size=19
    ·have hres:(Op.bytesLess x.toList [57,50,50,51,51,55,50,48,51,54,56,53,52,55,55,53,56,48,55] || x.toList==[57,50,50,51,51,55,50,48,51,54,56,53,52,55,55,53,56,48,55])=R:=by
      rw[ByteArray.toList_eq,<-HR.out,q1]
      exact zgF q2 (HXS.out.trans h19)
     clear q1 q2
     go_wp2_with fail
     go_ret
     exact⟨rfl,rfl⟩
    ·have hres:decide ((x.size:Int)<19)=R:=by
      rw[<-HR.out,q1,decide_eq_decide]
      have hne:48<(x[0]).toNat:=by
       have:=q2 x[0] (by rw[HRR.out];exact List.mem_cons_self ..)
       unfold Dg at this
       omega
      constructor
      ·intro h
       exact small_short q2 (by rw[HXS.out];omega)
      ·intro h
       rcases Nat.lt_or_ge x.size 19 with h'|h'
       ·omega
       ·exfalso
        have hl:=HXS.out
        rw[HRR.out] at hl h
        exact zdi hne (by omega) h
     clear q1 q2
     go_wp2_with fail
     go_ret
     exact⟨rfl,rfl⟩
  ·have hx0:x.data.toList=[]:=List.eq_nil_of_length_eq_zero (by rw[HXS.out];omega)
   have hres:true=R:=by
    rw[<-HR.out,(vV HX.out HD.out).1,hx0]
    rfl
   subst hres
   go_wp2_with fail
   go_ret
   exact⟨congrArg (fun b=>Ending.returned (.bool b)) (decide_eq_true (by omega)),rfl⟩
theorem jk:∀(l:List UInt8) (a:Nat),a<=digitsN l a
 |[],a=>Nat.le_refl _
 |c::r,a=>by unfold digitsN;exact Nat.le_trans (by omega) (jk r _)
theorem kG:∀(a b:List UInt8) (x:Nat),digitsN (a++b) x=digitsN b (digitsN a x)
 |[],b,x=>rfl
 |c::r,b,x=>kG r b (x*10+(c.toNat-48))
theorem zbh{l:List UInt8}{k:Nat}{c:UInt8}(h:l[k]? =some c):digitsN (l.take (k+1)) 0=digitsN (l.take k) 0*10+(c.toNat-48):=by
 rw[List.take_add_one,h,kG]
 rfl
theorem wH(l:List UInt8)(k:Nat):digitsN (l.take k) 0<=digitsN l 0:=by
 conv=>rhs;rw[<-List.take_append_drop k l,kG]
 exact jk _ _
theorem zew(s:ByteArray)(w:World)(hs:s.size<=8796093022207)(hdig:∀c∈s.data.toList,Dg c)(hlt:digitsN s.data.toList 0<9223372036854775808):
 Calls Tryz.prog 127 #[.string s] w fun e w'=>e= .returned (.int .i64 (digitsN s.data.toList 0:Nat))/\w'=w:=by
 have HD:=Lib.hid hdig
 have HLT:=Lib.hid hlt
 have HSZ:=Lib.hid (show s.data.toList.length=s.size from Array.length_toList)
 clear hdig hlt
 go_enter Tryz.func127,Tryz.ntmps127
 go_wp2_with fail
 go_loopg [3,4] s.size (fun g x y wq=>∃k:Nat,x= .int .i64 (digitsN (s.data.toList.take k) 0:Nat)/\y= .int .i64 k/\k<=s.size/\g=s.size-k/\wq=w)
 case atStart=>exact⟨0,rfl,rfl,Nat.zero_le _,rfl,rfl⟩
 case round=>
  obtain⟨k,rfl,rfl,hk,hg,rfl⟩:=hrel
  have HG:=Lib.hid hg
  clear hg
  by_cases hlt:k<s.size
  ·have hget:s.data.toList[k]? =some s[k]:=by
    rw[List.getElem?_eq_getElem (by rw[HSZ.out];exact hlt)]
    rfl
   have hdk:=HD.out s[k] (List.mem_of_getElem? hget)
   unfold Dg at hdk
   have hstep:=zbh hget
   have hle:=wH s.data.toList (k+1)
   have hL:=HLT.out
   have HST:=Lib.hid hstep
   generalize hN:digitsN (s.data.toList.take k) 0=N at*
   have h1:¬9223372036854775807<N*10:=by omega
   have h2:¬9223372036854775807<N*10+((s[k]).toNat-48):=by omega
   go_wp2_with fail
   go_roundg (s.size-(k+1))
   case measure=>have:=HG.out;omega
   case rel=>
    refine⟨k+1,?_,by simp,by omega,rfl,rfl⟩
    rw[HST.out]
    congr 1
    omega
  ·obtain rfl:k=s.size:=by omega
   go_wp2_with fail
   go_ret
   refine⟨?_,rfl⟩
   rw[List.take_of_length_le (by rw[HSZ.out];exact Nat.le_refl _)]
   rfl
theorem vr:∀(l:List UInt8) (a:Nat),(∀c∈l,Dg c)->a<=18446744073709551615->Lib.parseUintM 18446744073709551615 a l=if digitsN l a<=18446744073709551615 then .ok (digitsN l a) else .range
 |[],a,_,ha=>by unfold Lib.parseUintM digitsN;rw[if_pos ha]
 |c::r,a,h,ha=>by
  have hc:=h c (List.mem_cons_self ..)
  have hr:=fun d hd=>h d (List.mem_cons_of_mem _ hd)
  unfold Dg at hc
  have hge:=jk r (a*10+(c.toNat-48))
  have e:digitsN (c::r) a=digitsN r (a*10+(c.toNat-48)):=rfl
  rw[e]
  unfold Lib.parseUintM
  rw[if_pos hc]
  by_cases h1:1844674407370955162<=a
  ·rw[if_pos h1,if_neg (by omega)]
  ·rw[if_neg h1]
   by_cases h2:18446744073709551615<a*10+(c.toNat-48)
   ·rw[if_pos h2,if_neg (by omega)]
   ·rw[if_neg h2]
    exact vr r _ hr (by omega)
theorem zaW(s:ByteArray)(h0:0<s.size)(hd:∀c∈s.data.toList,Dg c):(digitsN s.data.toList 0<9223372036854775808->numOf s=(((digitsN s.data.toList 0:Nat):Int),0))/\(¬digitsN s.data.toList 0<9223372036854775808->(numOf s).2≠0):=by
 obtain⟨r,hr⟩:=za3 h0
 have hc:=hd s[0] (by rw[hr];exact List.mem_cons_self ..)
 unfold Dg at hc
 unfold numOf
 have key:Lib.parseIntB 64 s.data.toList=if digitsN s.data.toList 0<9223372036854775808 then .ok ((digitsN s.data.toList 0:Nat):Int) else .range:=by
  have hp:=vr s.data.toList 0 hd (by omega)
  rw[hr] at hp⊢
  unfold Lib.parseIntB
  simp only
  rw[if_neg (show ¬((s[0]).toNat=43\/(s[0]).toNat=45) by omega)]
  unfold Lib.parseUintB
  rw[if_neg (by simp),show(2:Nat) ^ 64-1=18446744073709551615 from rfl,hp]
  have h45:¬(s[0]).toNat=45:=by omega
  have e63:(2:Nat) ^ (64-1)=9223372036854775808:=rfl
  split
  ·rename_i h
   split at h<;>cases h
  ·rename_i h
   split at h
   ·cases h
   ·rw[if_neg (by omega)]
  ·rename_i u h
   split at h
   ·cases h
    by_cases h1:digitsN (s[0]::r) 0<9223372036854775808
    ·rw[if_neg (by rw[e63];omega),if_neg (by simp[h45]),if_neg h45,if_pos h1]
    ·rw[if_pos (by rw[e63];omega),if_neg h1]
   ·cases h
 rw[key]
 constructor
 ·intro h;rw[if_pos h]
 ·intro h;rw[if_neg h];simp
def twosB:List ByteArray:=[⟨#[60,61]⟩,⟨#[62,61]⟩,⟨#[61,61]⟩,⟨#[33,61]⟩,⟨#[38,38]⟩,⟨#[124,124]⟩,⟨#[58,61]⟩]
def uf:List ByteArray:=[⟨#[43]⟩,⟨#[45]⟩,⟨#[42]⟩,⟨#[47]⟩,⟨#[37]⟩,⟨#[60]⟩,⟨#[62]⟩,⟨#[33]⟩,⟨#[40]⟩,⟨#[41]⟩,⟨#[91]⟩,⟨#[93]⟩,⟨#[123]⟩,⟨#[125]⟩,⟨#[59]⟩]
def signsL:List ByteArray:=twosB++uf
theorem zeI(w:World):Calls Tryz.prog 128 #[] w fun e w'=>e= .returned (.slice (some ⟨w.heap.size,0,none⟩) 22 22)/\w'=w.alloc (.cells (signsL.map Value.string).toArray 9):=by
 go_enter Tryz.func128,Tryz.ntmps128
 go_wp2
 go_ret
 exact⟨rfl,rfl⟩
def yh(s:ByteArray)(i:Nat)(t:ByteArray):Bool:=decide (i+t.size<=s.size)&&((s.extract i (i+t.size)).toList==t.toList)
theorem zii:twos=twosB.map (·.toList):=by
 simp only[twos,twosB,List.map_cons,List.map_nil,ByteArray.toList_eq]
theorem wd:∀t∈twosB,t.size=2:=by decide
theorem zdz:∀t∈uf,t.size=1:=by decide
theorem gK{s:ByteArray}{i:Nat}{t:ByteArray}(ht:t∈twosB):yh s i t=(decide (i+1<s.size)&&((s.extract i (i+2)).toList==t.toList)):=by
 have h2:t.size=2:=wd t ht
 unfold yh
 rw[h2]
 congr 1
theorem zjL{a b:ByteArray}(h:a.toList=b.toList):a=b:=by
 rw[ByteArray.toList_eq,ByteArray.toList_eq] at h
 obtain⟨⟨x⟩⟩:=a
 obtain⟨⟨y⟩⟩:=b
 have h':x=y:=h
 rw[h']
theorem zca{s:ByteArray}{i:Nat}(hi:i<s.size):(s.extract i (i+1)).toList=[s[i]]:=by
 rw[ByteArray.toList_eq,ByteArray.data_extract,Array.toList_extract]
 have:i<s.data.toList.length:=by rw[Array.length_toList];exact hi
 rw[List.extract_eq_take_drop]
 rw[show i+1-i=1 by omega,List.take_one,List.head?_drop,List.getElem?_eq_getElem this]
 rfl
theorem one_match{s:ByteArray}{i:Nat}(hi:i<s.size):ones.any (fun t=>((s[i]).toNat:Int)==t)=uf.any (yh s i):=by
 have e:∀c:UInt8,yh s i ⟨#[c]⟩=decide ((s[i]).toNat=c.toNat):=fun c=>by
  unfold yh
  rw[show(⟨#[c]⟩:ByteArray).size=1 from rfl,decide_eq_true (by omega),Bool.true_and,zca hi,ByteArray.toList_eq]
  show([s[i]]==[c])=_
  by_cases h:s[i]=c
  ·subst h;simp
  ·have:¬(s[i]).toNat=c.toNat:=fun h'=>h (UInt8.toNat_inj.1 h')
   simp[h,this]
 have k:∀n:Nat,(((s[i]).toNat:Int)==(n:Int))=decide ((s[i]).toNat=n):=fun n=>by
  by_cases h:(s[i]).toNat=n<;>simp[h]<;>omega
 simp only[ones,uf,List.any_cons,List.any_nil,e]
 rw[show(43:Int)=((43:Nat):Int) from rfl,show(45:Int)=((45:Nat):Int) from rfl,show(42:Int)=((42:Nat):Int) from rfl,show(47:Int)=((47:Nat):Int) from rfl,show(37:Int)=((37:Nat):Int) from rfl,show(60:Int)=((60:Nat):Int) from rfl,show(62:Int)=((62:Nat):Int) from rfl,show(33:Int)=((33:Nat):Int) from rfl,show(40:Int)=((40:Nat):Int) from rfl,show(41:Int)=((41:Nat):Int) from rfl,show(91:Int)=((91:Nat):Int) from rfl,show(93:Int)=((93:Nat):Int) from rfl,show(123:Int)=((123:Nat):Int) from rfl,show(125:Int)=((125:Nat):Int) from rfl,show(59:Int)=((59:Nat):Int) from rfl]
 simp only[k]
 rfl
theorem zcz{s:ByteArray}{i:Nat}(hi:i<s.size):signAt s i=if twosB.any (yh s i) then s.extract i (i+2) else if uf.any (yh s i) then s.extract i (i+1) else ⟨#[]⟩:=by
 unfold signAt
 have e:(i+1<s.size/\(twos.any fun t=>(s.extract i (i+2)).toList==t)=true)↔twosB.any (yh s i)=true:=by
  rw[zii,List.any_map]
  have h:twosB.any (yh s i)=twosB.any (fun t=>decide (i+1<s.size)&&((s.extract i (i+2)).toList==t.toList)):=by
   rw[Bool.eq_iff_iff,List.any_eq_true,List.any_eq_true]
   exact⟨fun⟨t,h1,h2⟩=>⟨t,h1,by rw[<-gK h1];exact h2⟩,fun⟨t,h1,h2⟩=>⟨t,h1,by rw[gK h1];exact h2⟩⟩
  rw[h,List.any_eq_true,List.any_eq_true]
  constructor
  ·rintro⟨h1,t,h2,h3⟩
   exact⟨t,h2,by rw[decide_eq_true h1];exact h3⟩
  ·rintro⟨t,h2,h3⟩
   rw[Bool.and_eq_true,decide_eq_true_eq] at h3
   exact⟨h3.1,t,h2,h3.2⟩
 rw[dif_pos hi,one_match hi]
 by_cases h:twosB.any (yh s i)=true
 ·rw[if_pos (e.2 h),if_pos h]
 ·rw[if_neg (fun h'=>h (e.1 h')),if_neg h]
theorem za2{s:ByteArray}{i:Nat}{t:ByteArray}(h:yh s i t=true):i+t.size<=s.size/\s.extract i (i+t.size)=t:=by
 unfold yh at h
 rw[Bool.and_eq_true,decide_eq_true_eq] at h
 exact⟨h.1,zjL (by simpa using h.2)⟩
theorem zdk{s:ByteArray}{i k:Nat}{t:ByteArray}(hi:i<s.size)(ht:signsL[k]? =some t)(hm:yh s i t=true)(hn:∀(j:Nat) (u:ByteArray),j<k->signsL[j]? =some u->yh s i u=false):signAt s i=t:=by
 obtain⟨_,he⟩:=za2 hm
 rw[zcz hi]
 by_cases h7:k<7
 ·have hin:twosB[k]? =some t:=by rw[<-ht];unfold signsL;rw[List.getElem?_append_left (by exact h7)]
  have hmem:=List.mem_of_getElem? hin
  have h2:t.size=2:=wd t hmem
  rw[if_pos (List.any_eq_true.2 ⟨t,hmem,hm⟩)]
  rw[h2] at he
  exact he
 ·have hin:uf[k-7]? =some t:=by rw[<-ht];unfold signsL;rw[List.getElem?_append_right (by show 7<=k;omega)];rfl
  have hmem:=List.mem_of_getElem? hin
  have h1:t.size=1:=zdz t hmem
  rw[if_neg,if_pos (List.any_eq_true.2 ⟨t,hmem,hm⟩)]
  ·rw[h1] at he
   exact he
  ·intro h
   obtain⟨u,hu,hmu⟩:=List.any_eq_true.1 h
   obtain⟨j,hj⟩:=List.mem_iff_getElem?.1 hu
   have hj7:j<7:=(List.getElem?_eq_some_iff.1 hj).1
   have:=hn j u (by omega) (by unfold signsL;rw[List.getElem?_append_left (by exact hj7)];exact hj)
   rw[this] at hmu
   cases hmu
theorem sign_none{s:ByteArray}{i:Nat}(hi:i<s.size)(hn:∀(j:Nat) (u:ByteArray),signsL[j]? =some u->yh s i u=false):signAt s i=⟨#[]⟩:=by
 have hall:∀u∈signsL,yh s i u=false:=fun u hu=>by
  obtain⟨j,hj⟩:=List.mem_iff_getElem?.1 hu
  exact hn j u hj
 rw[zcz hi,if_neg,if_neg]
 ·intro h
  obtain⟨u,hu,hmu⟩:=List.any_eq_true.1 h
  rw[hall u (List.mem_append_right _ hu)] at hmu
  cases hmu
 ·intro h
  obtain⟨u,hu,hmu⟩:=List.any_eq_true.1 h
  rw[hall u (List.mem_append_left _ hu)] at hmu
  cases hmu
def pieceV(x:Item):Value:= .tuple #[.agg #[.int .i64 x.kind, .string x.text, .int .i64 x.num, .int .i64 x.pos], .int .i64 x.code]
theorem Kin.setCell{w0 w:World}(h:Kin w0 w){g o:Nat}(hg:w0.heap.size<=g)(u:Value):Kin w0 (w.setCell ⟨g,o,none⟩ u):=by
 refine⟨?_,?_,?_,fun k hk=>?_⟩
 ·rw[<-h.os];rfl
 ·rw[<-h.out];rfl
 ·have:=h.size;simpa using this
 ·rw[Below.heap_setCell _ _ _ _ (by simp;omega)];exact h.block k hk
theorem zaQ(s:ByteArray)(i:Nat)(w:World)(hi:i<s.size)(hs:s.size<=8796093022207)(hl:isLetter (s[i]).toNat=true):
 Calls Tryz.prog 87 #[.string s, .int .i64 i] w fun e w'=>e= .returned (pieceV (wordAt s i))/\Kin w w':=by
 go_enter Tryz.func87,Tryz.ntmps87
 go_wp2_with (go_at_call 124;with_reducible refine(rletter_any _ _).mono ?_;rintro e w' ⟨rfl,he⟩;obtain rfl:=he.symm)
 go_loop [6] (fun c=>∃k:Nat,i<=k/\k<=s.size/\c= .int .i64 k/\∀(j:Nat) (h:j<s.size),i<=j->j<k->zH s[j].toNat=true)
  (fun c=>s.size-(intOf c).toNat)
 case atStart=>exact⟨i,Nat.le_refl _,by omega,rfl,fun j _ h1 h2=>by omega⟩
 case round=>
  obtain⟨k,h1,h2,rfl,h3⟩:=hrel
  have H3:=Lib.hid h3
  clear h3
  by_cases hlt:k<s.size
  ·cases hk:isLetter (s[k]).toNat with
   |true=>
    go_wp2_with (go_at_call 124;with_reducible refine(rletter_any _ _).mono ?_;rintro e w' ⟨rfl,he⟩;obtain rfl:=he.symm)
    go_round
    case rel=>
     refine⟨k+1,by omega,by omega,by go_num,fun j hj a b=>?_⟩
     by_cases e:j=k
     ·subst e;simp only[zH,hk,Bool.true_or]
     ·exact H3.out j hj a (by omega)
    case measure=>simp[intOf];omega
   |false=>
    cases hd:isDigit (s[k]).toNat with
    |true=>
     go_wp2_with (first|(go_at_call 124;with_reducible refine(rletter_any _ _).mono ?_;rintro e w' ⟨rfl,he⟩;obtain rfl:=he.symm)|(go_at_call 125;with_reducible refine(yQ _ _).mono ?_;rintro e w' ⟨rfl,he⟩;obtain rfl:=he.symm))
     go_round
     case rel=>
      refine⟨k+1,by omega,by omega,by go_num,fun j hj a b=>?_⟩
      by_cases e:j=k
      ·subst e;simp only[zH,hk,hd,Bool.or_true]
      ·exact H3.out j hj a (by omega)
     case measure=>simp[intOf];omega
    |false=>
     have hu:k=upto zH s i:=upto_of ⟨h1,h2,H3.out,fun h=>by simp only[zH,hk,hd,Bool.or_false]⟩
     have HU:=Lib.hid hu
     clear hu
     by_cases h16:16<k-i
     ·have hv:wordAt s i=⟨0,⟨#[]⟩,0,0,21,i⟩:=by unfold wordAt;rw[<-HU.out,if_pos h16]
      have h16':16<(k:Int)-i:=by omega
      have HV:=Lib.hid hv
      clear hv
      go_wp2_with (first|(go_at_call 124;with_reducible refine(rletter_any _ _).mono ?_;rintro e w' ⟨rfl,he⟩;obtain rfl:=he.symm)|(go_at_call 125;with_reducible refine(yQ _ _).mono ?_;rintro e w' ⟨rfl,he⟩;obtain rfl:=he.symm))
      refine bodyPost_ret (v:=pieceV ⟨0,⟨#[]⟩,0,0,21,i⟩) (by simp[results,Tryz.f87,pieceV,go_sem];try rfl) rfl ?_
      exact⟨congrArg (fun x=>Ending.returned (pieceV x)) HV.out.symm,(Kin.refl w).alloc _⟩
     ·have hv:wordAt s i=⟨0,s.extract i k,0,i,0,0⟩:=by unfold wordAt;rw[<-HU.out,if_neg h16]
      have h16':¬16<(k:Int)-i:=by omega
      have HV:=Lib.hid hv
      clear hv
      go_wp2_with (first|(go_at_call 124;with_reducible refine(rletter_any _ _).mono ?_;rintro e w' ⟨rfl,he⟩;obtain rfl:=he.symm)|(go_at_call 125;with_reducible refine(yQ _ _).mono ?_;rintro e w' ⟨rfl,he⟩;obtain rfl:=he.symm))
      refine bodyPost_ret (v:=pieceV ⟨0,s.extract i k,0,i,0,0⟩) (by simp[results,Tryz.f87,pieceV,go_sem];try rfl) rfl ?_
      exact⟨congrArg (fun x=>Ending.returned (pieceV x)) HV.out.symm,(Kin.refl w).alloc _⟩
  ·have hu:k=upto zH s i:=upto_of ⟨h1,h2,H3.out,fun h=>absurd h hlt⟩
   have HU:=Lib.hid hu
   clear hu
   by_cases h16:16<k-i
   ·have hv:wordAt s i=⟨0,⟨#[]⟩,0,0,21,i⟩:=by unfold wordAt;rw[<-HU.out,if_pos h16]
    have h16':16<(k:Int)-i:=by omega
    have HV:=Lib.hid hv
    clear hv
    go_wp2_with fail
    refine bodyPost_ret (v:=pieceV ⟨0,⟨#[]⟩,0,0,21,i⟩) (by simp[results,Tryz.f87,pieceV,go_sem];try rfl) rfl ?_
    exact⟨congrArg (fun x=>Ending.returned (pieceV x)) HV.out.symm,(Kin.refl w).alloc _⟩
   ·have hv:wordAt s i=⟨0,s.extract i k,0,i,0,0⟩:=by unfold wordAt;rw[<-HU.out,if_neg h16]
    have h16':¬16<(k:Int)-i:=by omega
    have HV:=Lib.hid hv
    clear hv
    go_wp2_with fail
    refine bodyPost_ret (v:=pieceV ⟨0,s.extract i k,0,i,0,0⟩) (by simp[results,Tryz.f87,pieceV,go_sem];try rfl) rfl ?_
    exact⟨congrArg (fun x=>Ending.returned (pieceV x)) HV.out.symm,(Kin.refl w).alloc _⟩
theorem zbG{s:ByteArray}{i k:Nat}(h:Upto isDigit s i k):∀c∈(s.extract i k).data.toList,Dg c:=by
 intro c hc
 obtain⟨j,hj,rfl⟩:=List.mem_iff_getElem.1 hc
 have hj2:j<(s.extract i k).size:=by rw[Array.length_toList] at hj;exact hj
 obtain⟨h2,he⟩:=kF s i k j h.2.1 hj2
 have e:(s.extract i k).data.toList[j]=(s.extract i k)[j]:=Array.getElem_toList _
 rw[e,he]
 have hsz:(s.extract i k).size=k-i:=by have:=h.2.1;simp[ByteArray.size_extract];omega
 have:=h.2.2.1 (i+j) h2 (by omega) (by omega)
 unfold isDigit at this
 unfold Dg
 simp at this
 omega
theorem zbX(s:ByteArray)(i:Nat)(w:World)(hi:i<s.size)(hs:s.size<=8796093022207)(hl:isLetter (s[i]).toNat=false)(hd:isDigit (s[i]).toNat=true):
 Calls Tryz.prog 87 #[.string s, .int .i64 i] w fun e w'=>e= .returned (pieceV (numAt s i))/\Kin w w':=by
 go_enter Tryz.func87,Tryz.ntmps87
 go_wp2_with (first|(go_at_call 124;with_reducible refine(rletter_any _ _).mono ?_;rintro e w' ⟨rfl,he⟩;obtain rfl:=he.symm)|(go_at_call 125;with_reducible refine(yQ _ _).mono ?_;rintro e w' ⟨rfl,he⟩;obtain rfl:=he.symm))
 go_loop [6] (fun c=>∃k:Nat,i<=k/\k<=s.size/\c= .int .i64 k/\∀(j:Nat) (h:j<s.size),i<=j->j<k->isDigit s[j].toNat=true)
  (fun c=>s.size-(intOf c).toNat)
 case atStart=>exact⟨i,Nat.le_refl _,by omega,rfl,fun j _ h1 h2=>by omega⟩
 case round=>
  obtain⟨k,h1,h2,rfl,h3⟩:=hrel
  have H3:=Lib.hid h3
  clear h3
  by_cases hgo:∃hlt:k<s.size,isDigit (s[k]).toNat=true
  ·obtain⟨hlt,hk⟩:=hgo
   go_wp2_with (go_at_call 125;with_reducible refine(yQ _ _).mono ?_;rintro e w' ⟨rfl,he⟩;obtain rfl:=he.symm)
   go_round
   case rel=>
    refine⟨k+1,by omega,by omega,by go_num,fun j hj a b=>?_⟩
    by_cases e:j=k
    ·subst e;exact hk
    ·exact H3.out j hj a (by omega)
   case measure=>simp[intOf];omega
  ·have hup:Upto isDigit s i k:=⟨h1,h2,H3.out,fun h=>by simpa using fun h'=>hgo ⟨h,h'⟩⟩
   have hik:i<k:=by
    rcases Nat.lt_or_ge i k with h|h
    ·exact h
    ·obtain rfl:i=k:=by omega
     exact absurd ⟨hi,hd⟩ hgo
   have hdig:=zbG hup
   have hsz:(s.extract i k).size=k-i:=by simp[ByteArray.size_extract];omega
   obtain⟨n1,n2⟩:=zaW (s.extract i k) (by omega) hdig
   have hu:k=upto isDigit s i:=upto_of hup
   have hv:numAt s i=if (numOf (s.extract i k)).2≠0\/letterAt s k=true then ⟨0,⟨#[]⟩,0,0,22,i⟩ else ⟨1,s.extract i k,(numOf (s.extract i k)).1,i,0,0⟩:=by unfold numAt;rw[<-hu]
   have HSM:=Lib.hid (zeH (s.extract i k) · (by omega) hdig)
   by_cases hsm:digitsN (s.extract i k).data.toList 0<9223372036854775808
   ·have HVL:=Lib.hid (zew (s.extract i k) · (by omega) hdig hsm)
    rw[n1 hsm] at hv
    rw[decide_eq_true hsm] at HSM
    generalize digitsN (s.extract i k).data.toList 0=N at hv HVL
    clear hdig n1 n2 hu hup
    by_cases hlt:k<s.size
    ·have hk:isDigit (s[k]).toNat=false:=by simpa using fun h'=>hgo ⟨hlt,h'⟩
     have hla:letterAt s k=isLetter (s[k]).toNat:=by unfold letterAt;rw[dif_pos hlt]
     rw[hla] at hv
     cases hlk:isLetter (s[k]).toNat with
     |true=>
      rw[hlk,if_pos (.inr rfl)] at hv
      have HV:=Lib.hid hv
      clear hv hla
      go_wp2_with (first|(go_at_call 124;with_reducible refine(rletter_any _ _).mono ?_;rintro e w' ⟨rfl,he⟩;obtain rfl:=he.symm)|(go_at_call 125;with_reducible refine(yQ _ _).mono ?_;rintro e w' ⟨rfl,he⟩;obtain rfl:=he.symm)|(go_at_call 126;with_reducible refine(HSM.out _).mono ?_;rintro e w' ⟨rfl,he⟩;obtain rfl:=he.symm))
      refine bodyPost_ret (v:=pieceV ⟨0,⟨#[]⟩,0,0,22,i⟩) (by simp[results,Tryz.f87,pieceV,go_sem];try rfl) rfl ?_
      exact⟨congrArg (fun x=>Ending.returned (pieceV x)) HV.out.symm,(Kin.refl w).alloc _⟩
     |false=>
      rw[hlk,if_neg (by simp)] at hv
      have HV:=Lib.hid hv
      clear hv hla
      go_upto_region 13 with(first|(go_at_call 124;with_reducible refine(rletter_any _ _).mono ?_;rintro e w' ⟨rfl,he⟩;obtain rfl:=he.symm)|(go_at_call 125;with_reducible refine(yQ _ _).mono ?_;rintro e w' ⟨rfl,he⟩;obtain rfl:=he.symm)|(go_at_call 126;with_reducible refine(HSM.out _).mono ?_;rintro e w' ⟨rfl,he⟩;obtain rfl:=he.symm))
      go_region_with (go_at_call 127;with_reducible refine(HVL.out _).mono ?_;rintro e w' ⟨rfl,he⟩;obtain rfl:=he.symm)
      go_wp2_with fail
      refine bodyPost_ret (v:=pieceV ⟨1,s.extract i k,N,i,0,0⟩) (by simp[results,Tryz.f87,pieceV,go_sem];try rfl) rfl ?_
      exact⟨congrArg (fun x=>Ending.returned (pieceV x)) HV.out.symm,((Kin.refl w).alloc _).drewN 1⟩
    ·have hla:letterAt s k=false:=by unfold letterAt;rw[dif_neg hlt]
     rw[hla,if_neg (by simp)] at hv
     have HV:=Lib.hid hv
     clear hv hla
     go_upto_region 13 with(go_at_call 126;with_reducible refine(HSM.out _).mono ?_;rintro e w' ⟨rfl,he⟩;obtain rfl:=he.symm)
     go_region_with (go_at_call 127;with_reducible refine(HVL.out _).mono ?_;rintro e w' ⟨rfl,he⟩;obtain rfl:=he.symm)
     go_wp2_with fail
     refine bodyPost_ret (v:=pieceV ⟨1,s.extract i k,N,i,0,0⟩) (by simp[results,Tryz.f87,pieceV,go_sem];try rfl) rfl ?_
     exact⟨congrArg (fun x=>Ending.returned (pieceV x)) HV.out.symm,((Kin.refl w).alloc _).drewN 1⟩
   ·have hne:=n2 hsm
    rw[if_pos (.inl hne)] at hv
    rw[decide_eq_false hsm] at HSM
    have HV:=Lib.hid hv
    clear hv hdig n1 n2 hu hup
    by_cases hlt:k<s.size
    ·have hk:isDigit (s[k]).toNat=false:=by simpa using fun h'=>hgo ⟨hlt,h'⟩
     go_wp2_with (first|(go_at_call 125;with_reducible refine(yQ _ _).mono ?_;rintro e w' ⟨rfl,he⟩;obtain rfl:=he.symm)|(go_at_call 126;with_reducible refine(HSM.out _).mono ?_;rintro e w' ⟨rfl,he⟩;obtain rfl:=he.symm))
     refine bodyPost_ret (v:=pieceV ⟨0,⟨#[]⟩,0,0,22,i⟩) (by simp[results,Tryz.f87,pieceV,go_sem];try rfl) rfl ?_
     exact⟨congrArg (fun x=>Ending.returned (pieceV x)) HV.out.symm,(Kin.refl w).alloc _⟩
    ·go_wp2_with (go_at_call 126;with_reducible refine(HSM.out _).mono ?_;rintro e w' ⟨rfl,he⟩;obtain rfl:=he.symm)
     refine bodyPost_ret (v:=pieceV ⟨0,⟨#[]⟩,0,0,22,i⟩) (by simp[results,Tryz.f87,pieceV,go_sem];try rfl) rfl ?_
     exact⟨congrArg (fun x=>Ending.returned (pieceV x)) HV.out.symm,(Kin.refl w).alloc _⟩
end Go.Proofs.YtonmcakdofbjiaaGreatDoor
