/- A part. -/
import Derived.Test.YtonmcakdofbjiaaGreatDoorM7
import Derived.Conc.Beside
set_option linter.all false
set_option maxRecDepth 100000
set_option maxHeartbeats 8000000
namespace Go.Bsd
open Go.Conc
def blk:Loc->Option Nat
 | .cell a=>some a.block
 | .obj r=>some r
 |_=>none
def Still(op:MemOp):Prop:=op.act.touch? =none/\op.act≠ .mark .disable/\op.act≠ .mark .enable
structure Duo (n c:Nat) (Op Oc:Nat->Prop) (t:Trace):Prop where
 clean:∀said,¬Race said t
 cls:∀i a,touchAt t i=some a->a.loc.isMemory=true->(Knows t 0 i/\Knows t n i)\/∃b,blk a.loc=some b/\((Op b/\Knows t n i)\/(Oc b/\Knows t 0 i)\/(b=c/\a.kind= .atomic/\(Knows t 0 i\/Knows t n i)))
 over:∀i g,t.g? i=some g->g≠0->g≠n->t.counts i->∃j,t.g? j=some 0/\HappensBefore t i j
 h0:Deaf t 0=0
 hn:Deaf t n=0
structure DuoC (n c:Nat) (Op Oc:Nat->Prop) (pc:Nat) (t:Trace):Prop where
 clean:∀said,¬Race said t
 cls:∀i a,touchAt t i=some a->a.loc.isMemory=true->Knows t 0 i\/(Before t i pc/\∃b,blk a.loc=some b/\(Op b\/(b=c/\a.kind= .atomic)))
 close:t.act? pc=some (.close c)/\t.heard pc
 over:∀i g,t.g? i=some g->g≠0->t.counts i->(∃j,t.g? j=some 0/\HappensBefore t i j)\/Before t i pc
 h0:Deaf t 0=0
section
variable {n c:Nat} {Op Oc Op' Oc':Nat->Prop} {t u:Trace} {pc:Nat}
theorem deaf_still{g:Nat}(hu:∀op∈u,op.act≠ .mark .disable/\op.act≠ .mark .enable):Deaf (t++u) g=Deaf t g:=by
 have e:t++u=t++u.toList.toArray:=by simp
 rw[e,Deaf_append];have:∀(l:List MemOp) (d:Nat),(∀op∈l,op.act≠ .mark .disable/\op.act≠ .mark .enable)->l.foldl (deafStep g) d=d:=by
  intro l;induction l with
  |nil=>intros;rfl
  |cons x l ih=>
   intro d hl;obtain⟨h1,h2⟩:=hl x (List.mem_cons_self ..)
   rw[List.foldl_cons];have e1:deafStep g d x=d:=by
    unfold deafStep;split
    ·rename_i e;exact absurd e h1
    ·rename_i e;exact absurd e h2
    ·rfl
   rw[e1];exact ih d fun op hop=>hl op (List.mem_cons_of_mem _ hop)
 exact this _ _ fun op hop=>hu op (Array.mem_toList_iff.1 hop)
theorem jI{p:Nat->Prop}(h:∀i g,t.g? i=some g->g≠0->p g->t.counts i->∃j,t.g? j=some 0/\HappensBefore t i j)(hu:∀op∈u,op.g=0\/¬p op.g\/op.act.touch? =none):
 ∀i g,(t++u).g? i=some g->g≠0->p g->(t++u).counts i->∃j,(t++u).g? j=some 0/\HappensBefore (t++u) i j:=by
 intro i g hg hne hp hc;obtain⟨x,hx,hm⟩:=hc
 obtain⟨op,hop,hox⟩:=touch_of hx
 rcases getElem?_append_cases hop with⟨hi,hop'⟩|⟨_,hopu⟩
 ·obtain⟨j,hj,hb⟩:=h i g (by simpa [Trace.g?,getElem?_append_old hi] using hg) hne hp ((counts_old hi).1 ⟨x,hx,hm⟩)
  have hjl:j<t.size:=by
   unfold Trace.g? at hj
   obtain⟨z,hz,_⟩:=Option.map_eq_some_iff.1 hj
   exact lt_size_of_getElem? hz
  exact⟨j,by simpa [Trace.g?,getElem?_append_old hjl] using hj,hb_app u hb⟩
 ·have e:op.g=g:=by simpa [Trace.g?,hop] using hg
  rcases hu op hopu with h0|h0|h0
  ·exact absurd (e▸h0) hne
  ·exact absurd (e▸hp) h0
  ·rw[h0] at hox;cases hox
theorem cls_app{K:Trace->Nat->Touch->Prop}(hK:∀i a,K t i a->K (t++u) i a)(h:∀i a,touchAt t i=some a->a.loc.isMemory=true->K t i a)
 (hu:∀i op a,t.size<=i->(t++u)[i]? =some op->op∈u->op.act.touch? =some a->a.loc.isMemory=true->K (t++u) i a):∀i a,touchAt (t++u) i=some a->a.loc.isMemory=true->K (t++u) i a:=by
 intro i a ha hm;obtain⟨x,hx,hxa⟩:=touch_of ha
 rcases getElem?_append_cases hx with⟨hi,hx'⟩|⟨hi,hxu⟩
 ·exact hK i a (h i a (by rw[touchAt_of hx'];exact hxa) hm)
 ·exact hu i x a hi hx hxu hxa hm
def DuoK(n c:Nat)(Op Oc:Nat->Prop)(t:Trace)(i:Nat)(a:Touch):Prop:=(Knows t 0 i/\Knows t n i)\/∃b,blk a.loc=some b/\((Op b/\Knows t n i)\/(Oc b/\Knows t 0 i)\/(b=c/\a.kind= .atomic/\(Knows t 0 i\/Knows t n i)))
theorem DuoK.wide{i:Nat}{a:Touch}(hp:∀b,Op b->Op' b)(hc:∀b,Oc b->Oc' b)(h:DuoK n c Op Oc t i a):DuoK n c Op' Oc' t i a:=by
 rcases h with h|⟨b,hb,⟨h1,h2⟩|⟨h1,h2⟩|h⟩
 ·exact .inl h
 ·exact .inr ⟨b,hb, .inl ⟨hp b h1,h2⟩⟩
 ·exact .inr ⟨b,hb, .inr (.inl ⟨hc b h1,h2⟩)⟩
 ·exact .inr ⟨b,hb, .inr (.inr h)⟩
theorem DuoK.app{i:Nat}{a:Touch}(hp:∀b,Op b->Op' b)(hc:∀b,Oc b->Oc' b)(h:DuoK n c Op Oc t i a):DuoK n c Op' Oc' (t++u) i a:=by
 rcases h with⟨h1,h2⟩|⟨b,hb,⟨h1,h2⟩|⟨h1,h2⟩|⟨h1,h2,h3⟩⟩
 ·exact .inl ⟨h1.app u,h2.app u⟩
 ·exact .inr ⟨b,hb, .inl ⟨hp b h1,h2.app u⟩⟩
 ·exact .inr ⟨b,hb, .inr (.inl ⟨hc b h1,h2.app u⟩)⟩
 ·exact .inr ⟨b,hb, .inr (.inr ⟨h1,h2,h3.imp (·.app u) (·.app u)⟩)⟩
def DuoCK(c:Nat)(Op:Nat->Prop)(pc:Nat)(t:Trace)(i:Nat)(a:Touch):Prop:=Knows t 0 i\/(Before t i pc/\∃b,blk a.loc=some b/\(Op b\/(b=c/\a.kind= .atomic)))
theorem DuoCK.app{i:Nat}{a:Touch}(h:DuoCK c Op pc t i a):DuoCK c Op pc (t++u) i a:=h.imp (·.app u) fun⟨h1,h2⟩=>⟨h1.app u,h2⟩
theorem xU{said:Bool}(h:¬Race said t)(hu:∀op∈u,op.act.touch? =none):¬Race said (t++u):=by
 rintro⟨i,j,hij,⟨a,b,ha,hb,hc⟩,n1,n2⟩
 obtain⟨x,hx,hxa⟩:=touch_of ha
 obtain⟨y,hy,hyb⟩:=touch_of hb
 rcases getElem?_append_cases hy with⟨hj,hy'⟩|⟨hj,hyu⟩
 ·rcases getElem?_append_cases hx with⟨hi,hx'⟩|⟨hi,hxu⟩
  ·exact h ⟨i,j,hij,⟨a,b,by simp[Trace.act?,hx',hxa],by simp[Trace.act?,hy',hyb],hc⟩,fun e=>n1 (hb_app u e),fun e=>n2 (hb_app u e)⟩
  ·rw[hu x hxu] at hxa;cases hxa
 ·rw[hu y hyu] at hyb;cases hyb
theorem Duo.still(h:Duo n c Op Oc t)(hu:∀op∈u,Still op):Duo n c Op Oc (t++u):=
 ⟨fun said=>xU (h.clean said) fun op hop=>(hu op hop).1,
  cls_app (K:=DuoK n c Op Oc) (fun i a k=>k.app (fun _ x=>x) fun _ x=>x) h.cls fun i op a _ _ hop ha _=>(by rw[(hu op hop).1] at ha;cases ha),
  fun i g h1 h2 h3 h4=>jI (p:=fun g=>g≠n) h.over (fun op hop=> .inr (.inr (hu op hop).1)) i g h1 h2 h3 h4,
  (deaf_still fun op hop=>(hu op hop).2).trans h.h0,(deaf_still fun op hop=>(hu op hop).2).trans h.hn⟩
theorem DuoC.still(h:DuoC n c Op Oc pc t)(hu:∀op∈u,Still op):DuoC n c Op Oc pc (t++u):=by
 have hpc:pc<t.size:=lt_of_act? h.close.1;refine⟨fun said=>xU (h.clean said) fun op hop=>(hu op hop).1,
  cls_app (K:=DuoCK c Op pc) (fun i a k=>k.app) h.cls fun i op a _ _ hop ha _=>(by rw[(hu op hop).1] at ha;cases ha),
  ⟨(act?_old hpc).trans h.close.1,(heard_old hpc).2 h.close.2⟩,fun i g hg hne hc=>?_,(deaf_still fun op hop=>(hu op hop).2).trans h.h0⟩
 obtain⟨x,hx,hm⟩:=hc
 obtain⟨op,hop,hox⟩:=touch_of hx
 rcases getElem?_append_cases hop with⟨hi,hop'⟩|⟨_,hopu⟩
 ·rcases h.over i g (by simpa [Trace.g?,getElem?_append_old hi] using hg) hne ((counts_old hi).1 ⟨x,hx,hm⟩) with⟨j,hj,hb⟩|hb
  ·have hjl:j<t.size:=by
    unfold Trace.g? at hj
    obtain⟨z,hz,_⟩:=Option.map_eq_some_iff.1 hj
    exact lt_size_of_getElem? hz
   exact .inl ⟨j,by simpa [Trace.g?,getElem?_append_old hjl] using hj,hb_app u hb⟩
  ·exact .inr (hb.app u)
 ·rw[(hu op hopu).1] at hox;cases hox
def TouchIn(O:Nat->Prop)(c:Nat)(op:MemOp):Prop:=∀a,op.act.touch? =some a->a.loc.isMemory=true->∃b,blk a.loc=some b/\((O b/\b≠c)\/(b=c/\a.kind= .atomic))
theorem zaJ{a b:Touch}{said:Bool}(h:a.conflicts said b):blk a.loc=blk b.loc:=by rw[h.1]
theorem atomic_clash{a b:Touch}{said:Bool}(h:a.conflicts said b)(ha:a.kind= .atomic)(hb:b.kind= .atomic):False:=by
 obtain⟨_,_,_,hk⟩:=h
 rw[ha,hb] at hk;rcases hk with h|h|⟨_,h,_⟩<;>cases h
theorem Duo.prod(h:Duo n c Op Oc t)(hp:∀b,Op b->Op' b)(hd:∀b,Op' b->Oc b->False)(hc:¬Oc c)(hu:∀op∈u,op.g=n)(ht:∀op∈u,TouchIn Op' c op)(hs:∀op∈u,op.act≠ .mark .disable/\op.act≠ .mark .enable):Duo n c Op' Oc (t++u):=by
 refine⟨fun said=>noRace_append (h.clean said) hu fun i a ha op hop b hb hcf=>?_,cls_app (K:=DuoK n c Op' Oc) (fun i a k=>k.app (fun _ x=>x) fun _ x=>x) (fun i a h1 h2=>DuoK.wide hp (fun _ x=>x) (h.cls i a h1 h2)) fun i op a hi hop hmem ha hm=>?_,
  fun i g h1 h2 h3 h4=>jI (p:=fun g=>g≠n) h.over (fun op hop=> .inr (.inl fun k=>k (hu op hop))) i g h1 h2 h3 h4,(deaf_still hs).trans h.h0,(deaf_still hs).trans h.hn⟩
 ·have hmb:b.loc.isMemory=true:=hcf.1▸hcf.2.1;obtain⟨x,hx,hx2⟩:=ht op hop b hb hmb
  rcases h.cls i a ha hcf.2.1 with⟨_,k⟩|⟨y,hy,hk⟩
  ·exact k
  ·have e:y=x:=by
    have:=zaJ hcf
    rw[hy,hx] at this;exact Option.some.inj this
   subst e;rcases hk with⟨_,k⟩|⟨k1,_⟩|⟨k1,k2,_⟩
   ·exact k
   ·rcases hx2 with⟨q,_⟩|⟨q,_⟩
    ·exact(hd _ q k1).elim
    ·exact(hc (q▸k1)).elim
   ·rcases hx2 with⟨_,q⟩|⟨_,q⟩
    ·exact(q k1).elim
    ·exact(atomic_clash hcf k2 q).elim
 ·have hk:=knows_own hop;rw[hu op hmem] at hk;obtain⟨x,hx,hx2⟩:=ht op hmem a ha hm
  rcases hx2 with⟨q,_⟩|⟨q,q2⟩
  ·exact .inr ⟨x,hx, .inl ⟨q,hk⟩⟩
  ·exact .inr ⟨x,hx, .inr (.inr ⟨q,q2, .inr hk⟩)⟩
theorem Duo.cons(h:Duo n c Op Oc t)(hp:∀b,Oc b->Oc' b)(hd:∀b,Op b->Oc' b->False)(hc:¬Op c)(hn0:n≠0)(hu:∀op∈u,op.g=0)(ht:∀op∈u,TouchIn Oc' c op)(hs:∀op∈u,op.act≠ .mark .disable/\op.act≠ .mark .enable):Duo n c Op Oc' (t++u):=by
 refine⟨fun said=>noRace_append (h.clean said) hu fun i a ha op hop b hb hcf=>?_,cls_app (K:=DuoK n c Op Oc') (fun i a k=>k.app (fun _ x=>x) fun _ x=>x) (fun i a h1 h2=>DuoK.wide (fun _ x=>x) hp (h.cls i a h1 h2)) fun i op a hi hop hmem ha hm=>?_,
  fun i g h1 h2 h3 h4=>jI (p:=fun g=>g≠n) h.over (fun op hop=> .inl (hu op hop)) i g h1 h2 h3 h4,(deaf_still hs).trans h.h0,(deaf_still hs).trans h.hn⟩
 ·have hmb:b.loc.isMemory=true:=hcf.1▸hcf.2.1;obtain⟨x,hx,hx2⟩:=ht op hop b hb hmb
  rcases h.cls i a ha hcf.2.1 with⟨k,_⟩|⟨y,hy,hk⟩
  ·exact k
  ·have e:y=x:=by
    have:=zaJ hcf
    rw[hy,hx] at this;exact Option.some.inj this
   subst e;rcases hk with⟨k1,_⟩|⟨_,k⟩|⟨k1,k2,_⟩
   ·rcases hx2 with⟨q,_⟩|⟨q,_⟩
    ·exact(hd _ k1 q).elim
    ·exact(hc (q▸k1)).elim
   ·exact k
   ·rcases hx2 with⟨_,q⟩|⟨_,q⟩
    ·exact(q k1).elim
    ·exact(atomic_clash hcf k2 q).elim
 ·have hk:=knows_own hop;rw[hu op hmem] at hk;obtain⟨x,hx,hx2⟩:=ht op hmem a ha hm
  rcases hx2 with⟨q,_⟩|⟨q,q2⟩
  ·exact .inr ⟨x,hx, .inr (.inl ⟨q,hk⟩)⟩
  ·exact .inr ⟨x,hx, .inr (.inr ⟨q,q2, .inl hk⟩)⟩
theorem DuoC.cons(h:DuoC n c Op Oc pc t)(hd:∀b,Op b->Oc' b->False)(hc:¬Op c)(hu:∀op∈u,op.g=0)(ht:∀op∈u,TouchIn Oc' c op)(hs:∀op∈u,op.act≠ .mark .disable/\op.act≠ .mark .enable):DuoC n c Op Oc' pc (t++u):=by
 have hpc:pc<t.size:=lt_of_act? h.close.1;refine⟨fun said=>noRace_append (h.clean said) hu fun i a ha op hop b hb hcf=>?_,cls_app (K:=DuoCK c Op pc) (fun i a k=>k.app) h.cls fun i op a hi hop hmem ha hm=>?_,
  ⟨(act?_old hpc).trans h.close.1,(heard_old hpc).2 h.close.2⟩,fun i g hg hne hcn=>?_,(deaf_still hs).trans h.h0⟩
 ·have hmb:b.loc.isMemory=true:=hcf.1▸hcf.2.1;obtain⟨x,hx,hx2⟩:=ht op hop b hb hmb
  rcases h.cls i a ha hcf.2.1 with k|⟨_,y,hy,hk⟩
  ·exact k
  ·have e:y=x:=by
    have:=zaJ hcf
    rw[hy,hx] at this;exact Option.some.inj this
   subst e;rcases hk with k1|⟨k1,k2⟩
   ·rcases hx2 with⟨q,_⟩|⟨q,_⟩
    ·exact(hd _ k1 q).elim
    ·exact(hc (q▸k1)).elim
   ·rcases hx2 with⟨_,q⟩|⟨_,q⟩
    ·exact(q k1).elim
    ·exact(atomic_clash hcf k2 q).elim
 ·have hk:=knows_own hop;rw[hu op hmem] at hk;exact .inl hk
 ·obtain⟨x,hx,hm⟩:=hcn
  obtain⟨op,hop,hox⟩:=touch_of hx
  rcases getElem?_append_cases hop with⟨hi,hop'⟩|⟨_,hopu⟩
  ·rcases h.over i g (by simpa [Trace.g?,getElem?_append_old hi] using hg) hne ((counts_old hi).1 ⟨x,hx,hm⟩) with⟨j,hj,hb⟩|hb
   ·have hjl:j<t.size:=by
     unfold Trace.g? at hj
     obtain⟨z,hz,_⟩:=Option.map_eq_some_iff.1 hj
     exact lt_size_of_getElem? hz
    exact .inl ⟨j,by simpa [Trace.g?,getElem?_append_old hjl] using hj,hb_app u hb⟩
   ·exact .inr (hb.app u)
  ·exact absurd ((by simpa [Trace.g?,hop] using hg:op.g=g)▸hu op hopu) hne
theorem Duo.closes(h:Duo n c Op Oc t){y:MemOp}(hg:y.g=n)(hy:y.act= .close c):DuoC n c Op Oc t.size (t++ #[y]):=by
 have hlast:(t++ #[y])[t.size]? =some y:=by rw[Array.getElem?_append_right (Nat.le_refl _)];simp
 have hu:∀op∈(#[y]:Array MemOp),Still op:=by
  intro op hop;have:op=y:=by simpa using hop
  subst this;exact⟨by rw[hy];rfl,by rw[hy];simp,by rw[hy];simp⟩
 have h':=h.still hu;have hbef:∀i,Knows (t++ #[y]) n i->Before (t++ #[y]) i t.size:=by
  rintro i ⟨q,z,h1,h2,h3⟩;have hq:=lt_size_of_getElem? h1;rcases Nat.lt_or_ge q t.size with hl|hl
  ·exact h3.trans (.inr (hb_po hl h1 hlast (h2.trans hg.symm)))
  ·have e:q=t.size:=by simp at hq;omega
   exact e▸h3
 refine⟨h'.clean,fun i a ha hm=>?_,⟨by rw[act?_of hlast,hy],n,by simp[Trace.g?,hg],?_⟩,fun i g hg2 hne hc=>?_,h'.h0⟩
 ·rcases h'.cls i a ha hm with⟨k,_⟩|⟨b,hb,⟨k1,k2⟩|⟨k1,k2⟩|⟨k1,k2,k3⟩⟩
  ·exact .inl k
  ·exact .inr ⟨hbef i k2,b,hb, .inl k1⟩
  ·exact .inl k2
  ·rcases k3 with k3|k3
   ·exact .inl k3
   ·exact .inr ⟨hbef i k3,b,hb, .inr ⟨k1,k2⟩⟩
 ·rw[deaf_old (Nat.le_refl _)];exact h.hn
 ·by_cases hgn:g=n
  ·subst hgn;obtain⟨x,hx,_⟩:=hc
   obtain⟨op,hop,_⟩:=touch_of hx
   have e:op.g=g:=by unfold Trace.g? at hg2;rw[hop] at hg2;simpa using hg2
   have k:=knows_own hop;rw[e] at k;exact .inr (hbef i k)
  ·exact .inl (h'.over i g hg2 hne hgn hc)
theorem uq(t:Trace):∃B,∀op∈t,op.act.low B:=by
 obtain⟨l⟩:=t
 induction l with
 |nil=>exact⟨0,by simp⟩
 |cons x l ih=>
  obtain⟨B,hB⟩:=ih
  have one:∃B,x.act.low B:=by
   cases hx:x.act with
   |access e=>
    obtain⟨loc,wr,sy⟩:=e
    cases loc with
    |cell a=>exact⟨a.block+1,Nat.lt_succ_self _⟩
    |obj r=>exact⟨r+1,Nat.lt_succ_self _⟩
    |_=>exact⟨0,trivial⟩
   |mark m=>cases m<;>first|exact⟨0,trivial⟩|exact⟨_,Nat.lt_succ_self _⟩
   |go _=>exact⟨0,trivial⟩
   |start=>exact⟨0,trivial⟩
   |_=>exact⟨_,Nat.lt_succ_self _⟩
  obtain⟨B',hB'⟩:=one
  refine⟨max B B',fun op hop=>?_⟩;rcases List.mem_cons.1 (by simpa using hop:op∈x::l) with rfl|h
  ·exact MemAct.low_mono (Nat.le_max_right _ _) hB'
  ·exact MemAct.low_mono (Nat.le_max_left _ _) (hB op (by simpa using h))
theorem DuoC.over0(h:DuoC n c Op Oc pc t){y:MemOp}(hg:y.g=0)(hy:y.act= .recvClosed c):∃B,Past (fun _=>False) B (t++ #[y]):=by
 have hlast:(t++ #[y])[t.size]? =some y:=by rw[Array.getElem?_append_right (Nat.le_refl _)];simp
 have hu:∀op∈(#[y]:Array MemOp),Still op:=by
  intro op hop;have:op=y:=by simpa using hop
  subst this;exact⟨by rw[hy];rfl,by rw[hy];simp,by rw[hy];simp⟩
 have h':=h.still hu;have hpc:pc<t.size:=lt_of_act? h.close.1;have hheard:(t++ #[y]).heard t.size:=⟨0,by simp[Trace.g?,hg],by rw[deaf_old (Nat.le_refl _)];exact h.h0⟩
 have hedge:HappensBefore (t++ #[y]) pc t.size:= .single (.inr ⟨.closed (c:=c) h'.close.1 (by rw[act?_of hlast,hy]),h'.close.2,hheard⟩)
 have hk:∀i,Before (t++ #[y]) i pc->Knows (t++ #[y]) 0 i:=fun i k=>⟨t.size,y,hlast,hg, .inr (k.hb hedge)⟩;obtain⟨B,hB⟩:=uq (t++ #[y])
 refine⟨B,h'.clean,fun i a ha hm=> .inl ?_,fun i g hgi hne hc=>?_,h'.h0,hB⟩
 ·rcases h'.cls i a ha hm with k|⟨k,_⟩
  ·exact k
  ·exact hk i k
 ·rcases h'.over i g hgi hne hc with k|k
  ·exact k
  ·exact⟨t.size,by simp[Trace.g?,hg],k.hb hedge⟩
theorem duo_start{B:Nat}(h:Past (fun _=>False) B t)(hn0:n≠0)(hnd:Deaf t n=0){y z:MemOp}(hy:y.g=0)(hya:y.act= .go n)(hz:z.g=n)(hza:z.act= .start)(Op Oc:Nat->Prop)(c:Nat):Duo n c Op Oc (t++ #[y,z]):=by
 have e:t++ #[y,z]=(t++ #[y])++ #[z]:=by apply Array.ext';simp
 have ly:(t++ #[y,z])[t.size]? =some y:=by rw[Array.getElem?_append_right (Nat.le_refl _)];simp
 have lz:(t++ #[y,z])[t.size+1]? =some z:=by rw[Array.getElem?_append_right (Nat.le_succ _)];simp
 have hu:∀op∈(#[y,z]:Array MemOp),Still op:=by
  intro op hop;have:op=y\/op=z:=by simpa using hop
  rcases this with rfl|rfl
  ·exact⟨by rw[hya];rfl,by rw[hya];simp,by rw[hya];simp⟩
  ·exact⟨by rw[hza];rfl,by rw[hza];simp,by rw[hza];simp⟩
 have d0:Deaf (t++ #[y,z]) 0=0:=(deaf_still fun op hop=>(hu op hop).2).trans h.hears;have dn:Deaf (t++ #[y,z]) n=0:=(deaf_still fun op hop=>(hu op hop).2).trans hnd;have hy0:(t++ #[y,z]).heard t.size:=⟨0,by unfold Trace.g?;rw[ly];simp[hy],by rw[deaf_old (Nat.le_refl _)];exact h.hears⟩
 have hz0:(t++ #[y,z]).heard (t.size+1):=by
  refine⟨n,by unfold Trace.g?;rw[lz];simp[hz],?_⟩
  rw[e,deaf_old (by simp)]
  have:Deaf (t++ #[y]) n=0:=(deaf_still fun op hop=>(hu op (by simp at hop⊢;exact .inl hop)).2).trans hnd
  unfold Deaf at this;simpa using this
 have hedge:HappensBefore (t++ #[y,z]) t.size (t.size+1):= .single (.inr ⟨.spawn (child:=n) (by rw[act?_of ly,hya]) (by rw[act?_of lz,hza]) (by unfold Trace.g?;rw[lz];simp[hz]),hy0,hz0⟩)
 refine⟨fun said=>xU (h.clean said) fun op hop=>(hu op hop).1,fun i a ha hm=>?_,fun i g h1 h2 h3 h4=>jI (p:=fun _=>True) (fun i g a b _ d=>h.over i g a b d) (fun op hop=> .inr (.inr (hu op hop).1)) i g h1 h2 trivial h4,d0,dn⟩;obtain⟨x,hx,hxa⟩:=touch_of ha
 rcases getElem?_append_cases hx with⟨hi,hx'⟩|⟨_,hxu⟩
 ·have k:Knows t 0 i:=(h.known i a (by rw[touchAt_of hx'];exact hxa) hm).elim id fun k=>k.1.elim
  exact .inl ⟨k.app _,⟨t.size+1,z,lz,hz, .inr ((k.hb_new (Nat.le_refl _) ly hy).trans hedge)⟩⟩
 ·rw[(hu x hxu).1] at hxa;cases hxa
theorem touch_ev{ρ:Rn}{w:World}{g:Nat}{fn:FuncId}{pos:String}{es:Array Event}(h:∀e∈es,EvR ρ w e)(hc:z8 w c):
 (∀op∈MemOp.ofEvents g fn pos es,op.g=g)/\(∀op∈MemOp.ofEvents g fn pos es,TouchIn (fun b=>(∃x,ρ x b)/\b≠c) c op)/\∀op∈MemOp.ofEvents g fn pos es,op.act≠ .mark .disable/\op.act≠ .mark .enable:=by
 have key:∀op∈MemOp.ofEvents g fn pos es,∃e∈es,op={g,fn,pos,act:= .ofEvent e}:=fun op hop=>Go.Conc.mem_ofEvents hop;refine⟨fun op hop=>by obtain⟨e,_,rfl⟩:=key op hop;rfl,fun op hop a ha hm=>?_,fun op hop=>?_⟩
 ·obtain⟨e,he,rfl⟩:=key op hop
  obtain⟨loc,wr,sy⟩:=e
  rcases h _ he with⟨ad,x,h1,h2,h3,h4⟩|⟨m,h1,h2⟩|⟨r,x,b,h1,h2,h3⟩|h1
  ·simp only at h1 h2
   subst h1;subst h2
   simp only[MemAct.ofEvent,MemAct.touch?,Option.some.injEq] at ha;subst ha;exact⟨ad.block,rfl, .inl ⟨⟨⟨x,h3⟩,fun k=>h4 (k▸hc)⟩,fun k=>h4 (k▸hc)⟩⟩
  ·simp only at h1
   subst h1;rcases h2 with rfl|⟨f,rfl⟩<;>simp[MemAct.ofEvent,MemAct.touch?] at ha
  ·simp only[Event.mk.injEq] at h1;obtain⟨rfl,rfl,rfl⟩:=h1
   simp only[MemAct.ofEvent,MemAct.touch?,Option.some.injEq] at ha;subst ha;by_cases hrc:r=c
   ·rcases h3 with rfl|h3
    ·exact⟨r,rfl, .inr ⟨hrc,rfl⟩⟩
    ·exact(h3 (hrc▸hc)).elim
   ·exact⟨r,rfl, .inl ⟨⟨⟨x,h2⟩,hrc⟩,hrc⟩⟩
  ·simp only at h1
   subst h1;cases wr<;>cases sy<;>(simp only[MemAct.ofEvent,MemAct.touch?,Option.some.injEq] at ha;subst ha;cases hm)
 ·obtain⟨e,he,rfl⟩:=key op hop
  obtain⟨loc,wr,sy⟩:=e
  rcases h _ he with⟨ad,x,h1,h2,h3,h4⟩|⟨m,h1,h2⟩|⟨r,x,b,h1,h2,h3⟩|h1
  ·simp only at h1 h2
   subst h1;subst h2
   simp[MemAct.ofEvent]
  ·simp only at h1
   subst h1;rcases h2 with rfl|⟨f,rfl⟩<;>simp[MemAct.ofEvent]
  ·simp only[Event.mk.injEq] at h1;obtain⟨rfl,rfl,rfl⟩:=h1
   simp[MemAct.ofEvent]
  ·simp only at h1
   subst h1;simp[MemAct.ofEvent]
end
theorem wb{P:Program}{gs:Array Goroutine}{w w₁:World}{sl:Option (Nat×Nat)}{i j:Nat}{g g₂ gj:Goroutine}{es:Array Event}{shape shj:CommShape}{blocking:Bool}{c cap s r:Nat}{buf:Array Value}{closed tm:Bool}{v z zj:Value}
 (hi:gs[i]? =some g) (h:stepG P (i==0) g w= .comm g₂ #[rcase c z] blocking shape w₁ es) (hc:w₁.heap[c]? =some (.chan cap buf closed s r tm)) (hsome:0<buf.size)
 (hij:j≠i) (hj:gs[j]? =some (parked gj #[scase c v zj] shj)) (hp:partners (gs.setIfInBounds i ph) c true=[(j,0)]):
 runT P (crowd gs w sl) i=(.next (crowd ((gs.setIfInBounds j (gj.finishComm P #[scase c v zj] shj 0 undef false)).setIfInBounds i (g₂.finishComm P #[rcase c z] shape 0 (buf.getD 0 undef) true)) (w₁.setChan c cap ((buf.extract 1 buf.size).push v) closed (s+1) (r+1) tm) sl),
  MemOp.ofEvents i g.frame.fn g.frame.place es++ #[{g:=i,fn:=g₂.frame.fn,pos:=g₂.frame.place,act:= .recv c r cap},{g:=i,fn:=g₂.frame.fn,pos:=g₂.frame.place,act:= .recvDone c r},
   {g:=j,fn:=gj.frame.fn,pos:=gj.frame.place,act:= .send c s},{g:=j,fn:=gj.frame.fn,pos:=gj.frame.place,act:= .sendDone c s}]):=by
 rw[runT_crowd_comm hi h];have hj':=stand_get (i:=i) hij hj;have hfp:=finishPartner_at P (gs.setIfInBounds i ph) hj' (cs:= #[scase c v zj]) (sh:=shj) rfl 0 undef;have hgd:(gs.setIfInBounds i ph).getD j default=parked gj #[scase c v zj] shj:=by rw[Array.getD_eq_getD_getElem?,hj'];rfl
 have hov:offeredValue (gs.setIfInBounds i ph) j 0=v:=by simp[offeredValue,hj',parked,scase]
 simp[communicate,ways,rcase,hc,hp,hsome,choose,Sem.run,Question.forced,bind,Sem.bind,pure,World.setChan,crowd,hfp,hgd,hov,set_stand2,finishComm_parked,scase,parked];rfl
structure Lk (P:Program) (F:FuncId->Prop) (G:Nat->Prop) (D:Bool->Prop) (k k':CallKind) (tl tl':List Deferred) (cs cs':List Frame) (ρ:Rn) (fr:Frame) (l:List Frame) (fr':Frame) (l':List Frame) (v w:World):Prop where
 st:SRl P F G D k k' tl tl' cs cs' ρ (fr::l) (fr'::l')
 one:One P.globals.size ρ
 rel:WRel F ρ v w
 os:v.os=w.os
 sz:P.globals.size<=v.heap.size
 sz':P.globals.size<=w.heap.size
 glob:∀g,G g->ρ g g
section
variable {P:Program} {F:FuncId->Prop} {G:Nat->Prop} {D:Bool->Prop} {k k':CallKind} {tl tl':List Deferred} {cs cs':List Frame} {ρ ρ₁:Rn} {fr fr':Frame} {l l':List Frame} {v w v₁ w₁:World}
theorem Lk.moved(h:Lk P F G D k k' tl tl' cs cs' ρ fr l fr' l' v w)(m:Moved P.globals.size F ρ v w ρ₁ v₁ w₁){fr₁ fr₁':Frame}{l₁ l₁':List Frame}(hs:SRl P F G D k k' tl tl' cs cs' ρ₁ (fr₁::l₁) (fr₁'::l₁')):Lk P F G D k k' tl tl' cs cs' ρ₁ fr₁ l₁ fr₁' l₁' v₁ w₁:=
 ⟨hs,m.one,m.rel,by rw[m.os,m.os',h.os],Nat.le_trans h.sz m.grow,Nat.le_trans h.sz' m.grow',fun g hg=>m.ext _ _ (h.glob g hg)⟩
theorem Lk.tape(h:Lk P F G D k k' tl tl' cs cs' ρ fr l fr' l' v w)(T:Nat->Question->Nat)(d:Nat)(T':Nat->Question->Nat)(d':Nat):Lk P F G D k k' tl tl' cs cs' ρ fr l fr' l' (re v T d) (re w T' d'):=
 ⟨h.st,h.one,fun r r' hr=>h.rel r r' hr,h.os,h.sz,h.sz',h.glob⟩
theorem zbN(h:Lk P F G D k k' tl tl' cs cs' ρ fr l fr' l' v w):Tied P.globals.size (re v w.tape w.drawn) w:=⟨fun _ _=>rfl,h.os,h.sz,h.sz'⟩
theorem node_step(hP:SimP P F G D)(hn:NoRec k cs)(hn':NoRec k' cs')(h:Lk P F G D k k' tl tl' cs cs' ρ fr l fr' l' v w)(hg:Goes1 tl cs fr l){g₁:Goroutine}(hst:step P (solo (Go.Conc.G fr l) (re v w.tape w.drawn))= .next (solo g₁ v₁))(b':Bool):
 (∃(ρ₁:Rn) (fr₁:Frame) (l₁:List Frame) (fr₁':Frame) (l₁':List Frame) (w₁:World) (es':Array Event),stepG P b' (Go.Conc.G fr' l') w= .go (Go.Conc.G fr₁' l₁') w₁ es'/\g₁=Go.Conc.G fr₁ l₁/\
    Moved P.globals.size F ρ (re v w.tape w.drawn) w ρ₁ v₁ w₁/\SRl P F G D k k' tl tl' cs cs' ρ₁ (fr₁::l₁) (fr₁'::l₁')/\∀e∈es',EvR ρ₁ w e)\/
 ∃(ρ₁:Rn) (fr₁:Frame) (l₁:List Frame) (fr₁':Frame) (l₁':List Frame) (v₂ w₁:World) (es es':Array Event) (c c':CommCase) (s:CommShape),stepG P b' (Go.Conc.G fr' l') w= .comm (Go.Conc.G fr₁' l₁') #[c'] true s w₁ es'/\
  stepG P true (Go.Conc.G fr l) (re v w.tape w.drawn)= .comm (Go.Conc.G fr₁ l₁) #[c] true s v₂ es/\CRel F ρ₁ c c'/\D c.send.isSome/\ShOk #[c] s/\Moved P.globals.size F ρ (re v w.tape w.drawn) w ρ₁ v₂ w₁/\SRl P F G D k k' tl tl' cs cs' ρ₁ (fr₁::l₁) (fr₁'::l₁')/\∀e∈es',EvR ρ₁ w e:=by
 have hs:=gd (w:=re v w.tape w.drawn) (b:=true) (b':=b') hP h.glob hn hn' h.st h.one (fun r r' hr=>h.rel r r' hr) (zbN h) hg;rw[step_solo rfl] at hst;generalize hx:stepG P true (Go.Conc.G fr l) (re v w.tape w.drawn)=x at hs;generalize hy:stepG P b' (Go.Conc.G fr' l') w=y at hs;cases hs with
 | @go ρ₁ fr₁ fr₁' l₁ l₁' v₂ w₁ es es' m hsr he=>
   rw[runT_solo_go hx] at hst;simp only[Stepped.next.injEq] at hst;obtain⟨rfl,rfl⟩:=ye hst
   exact .inl ⟨ρ₁,fr₁,l₁,fr₁',l₁',w₁,es',rfl,rfl,m,hsr,he⟩
 | @comm ρ₁ fr₁ fr₁' l₁ l₁' v₂ w₁ es es' c c' s m hsr hc hsh he=>
   cases hc with
   |one hc hd=>exact .inr ⟨ρ₁,fr₁,l₁,fr₁',l₁',v₂,w₁,es,es',_,_,s,rfl,rfl,hc,hd,hsh,m,hsr,he⟩
 | @ended o w₁ es x=>
   rw[solo_eq_crowd,runT_many_ended (by rfl) hx] at hst
   cases hst
theorem partners_solo(g:Goroutine)(c:Nat)(b:Bool):partners ((#[g]:Array Goroutine).setIfInBounds 0 ph) c b=[]:=qQ (others_solo g) ph rfl c b
theorem qh{g g₂ g₁:Goroutine}{cases:Array CommCase}{shape:CommShape}{es:Array Event}(hr:g.status= .running)(h:stepG P true g v= .comm g₂ cases true shape v₁ es)(hw:∀cc∈cases,NoWays v₁ ((#[g]:Array Goroutine).setIfInBounds 0 ph) cc){v₂:World}
 (hst:step P (solo g v)= .next (solo g₁ v₂)):g₁.status= .blocked:=by
 rw[step_solo hr,solo_eq_crowd,crowd_waits (i:=0) rfl h hw] at hst;simp only[Stepped.next.injEq] at hst;have e:(crowd ((#[g]:Array Goroutine).setIfInBounds 0 (parked g₂ cases shape)) v₁ none)=solo (parked g₂ cases shape) v₁:=rfl;rw[e] at hst;obtain⟨rfl,_⟩:=ye hst
 rfl
theorem vt{g g₂:Goroutine}{c:CommCase}{shape:CommShape}{es:Array Event}(hr:g.status= .running)(h:stepG P true g v= .comm g₂ #[c] true shape v₁ es)(hw:illMade v₁ c=true){m:Machine}
 (hst:step P (solo g v)= .next m):False:=by
 rw[step_solo hr,solo_eq_crowd,runT_crowd_comm (i:=0) rfl h] at hst;unfold communicate at hst;dsimp only at hst
 have:(#[c]:Array CommCase).any (illMade v₁)=true:=by simp[hw]
 split at hst
 ·cases hst
 ·rename_i hneg;exact hneg this
theorem chan_of{c:Nat}{cc cc':CommCase}{fr₁:Frame}{l₁:List Frame}{s:CommShape}{es:Array Event}{v₂:World}{g₁:Goroutine}(hcc:CRel F ρ₁ cc cc')(hx:stepG P true (Go.Conc.G fr l) v= .comm (Go.Conc.G fr₁ l₁) #[cc] true s v₂ es)
 (hst:step P (solo (Go.Conc.G fr l) v)= .next (solo g₁ v₁)) (hr:g₁.status= .running) (honly:∀x y,ρ₁ x y->z8 v₂ x->x=c/\y=c):cc.chan= .chan (some c)/\cc'.chan= .chan (some c):=by
 have hch:=hcc.chan;generalize he:cc.chan=a,he':cc'.chan=a' at hch;cases hch with
 |chan hr'=>
  cases hr' with
  |none=>
   exfalso;have hnw:NoWays v₂ ((#[Go.Conc.G fr l]:Array Goroutine).setIfInBounds 0 ph) cc:=by
    refine⟨by unfold illMade;rw[he],?_⟩
    unfold ways;rw[he]
   have:=qh rfl hx (by simpa using hnw) hst
   rw[hr] at this;cases this
  | @some x y hxy=>
    by_cases hc:z8 v₂ x
    ·obtain⟨rfl,rfl⟩:=honly x y hxy hc
     exact⟨rfl,rfl⟩
    ·exfalso;refine vt rfl hx ?_ hst;unfold illMade;rw[he];dsimp only;unfold z8 isChan at hc;cases ho:v₂.heap[x]? with
     |none=>rfl
     |some o=>cases o<;>first|rfl|exact(hc ⟨_,ho,rfl⟩).elim
 |_=>exact(vt rfl hx (by unfold illMade;rw[he]) hst).elim
theorem uu{c:Nat}{cc:CommCase}(h:cc.chan= .chan (some c)){x:Value}(hs:cc.send=some x):cc=scase c x cc.zero:=by
 obtain⟨a,b,z⟩:=cc
 simp only at h hs
 subst h;subst hs
 rfl
theorem comm_eta_r{c:Nat}{cc:CommCase}(h:cc.chan= .chan (some c))(hs:cc.send=none):cc=rcase c cc.zero:=by
 obtain⟨a,b,z⟩:=cc
 simp only at h hs
 subst h;subst hs
 rfl
theorem gy{c K n r:Nat}{b:Array Value}{x z:Value}{fr₁:Frame}{l₁:List Frame}{es:Array Event}{v₂:World}{g₁:Goroutine}(hx:stepG P true (Go.Conc.G fr l) v= .comm (Go.Conc.G fr₁ l₁) #[scase c x z] true .send v₂ es)
 (hc:v₂.heap[c]? =some (.chan K b false n r false)) (hroom:b.size<K) (hst:step P (solo (Go.Conc.G fr l) v)= .next (solo g₁ v₁)):g₁=Go.Conc.G (fr₁.finish undef) l₁/\v₁=v₂.setChan c K (b.push x) false (n+1) r false:=by
 have h:=crowd_send_room (P:=P) (gs:= #[Go.Conc.G fr l]) (w:=v) (sl:=none) (i:=0) rfl hx hc hroom (partners_solo _ _ _);rw[step_solo rfl,solo_eq_crowd,h] at hst;simp only[Stepped.next.injEq] at hst;have e:(crowd ((#[Go.Conc.G fr l]:Array Goroutine).setIfInBounds 0 ((Go.Conc.G fr₁ l₁).finishComm P #[scase c x z] .send 0 undef false)) (v₂.setChan c K (b.push x) false (n+1) r false) none)=solo (Go.Conc.G (fr₁.finish undef) l₁) (v₂.setChan c K (b.push x) false (n+1) r false):=rfl;rw[e] at hst;obtain⟨rfl,rfl⟩:=ye hst
 exact⟨rfl,rfl⟩
theorem gz{c K n r:Nat}{b:Array Value}{z:Value}{ok:Bool}{fr₁:Frame}{l₁:List Frame}{es:Array Event}{v₂:World}{g₁:Goroutine}(hx:stepG P true (Go.Conc.G fr l) v= .comm (Go.Conc.G fr₁ l₁) #[rcase c z] true (.recv ok) v₂ es)
 (hc:v₂.heap[c]? =some (.chan K b false n r false)) (hsome:0<b.size) (hst:step P (solo (Go.Conc.G fr l) v)= .next (solo g₁ v₁)):g₁=Go.Conc.G (fr₁.finish (recvd ok (b.getD 0 undef) true)) l₁/\v₁=v₂.setChan c K (b.extract 1 b.size) false n (r+1) false:=by
 have h:=crowd_recv_buf (P:=P) (gs:= #[Go.Conc.G fr l]) (w:=v) (sl:=none) (i:=0) rfl hx hc hsome (partners_solo _ _ _);rw[step_solo rfl,solo_eq_crowd,h] at hst;simp only[Stepped.next.injEq] at hst;have e:(crowd ((#[Go.Conc.G fr l]:Array Goroutine).setIfInBounds 0 ((Go.Conc.G fr₁ l₁).finishComm P #[rcase c z] (.recv ok) 0 (b.getD 0 undef) true)) (v₂.setChan c K (b.extract 1 b.size) false n (r+1) false) none)=solo (Go.Conc.G (fr₁.finish (recvd ok (b.getD 0 undef) true)) l₁) (v₂.setChan c K (b.extract 1 b.size) false n (r+1) false):=by
  rw[finishComm_recv];rfl
 rw[e] at hst;obtain⟨rfl,rfl⟩:=ye hst
 exact⟨rfl,rfl⟩
theorem jS{c K n r:Nat}{z:Value}{ok:Bool}{fr₁:Frame}{l₁:List Frame}{es:Array Event}{v₂:World}{g₁:Goroutine}(hx:stepG P true (Go.Conc.G fr l) v= .comm (Go.Conc.G fr₁ l₁) #[rcase c z] true (.recv ok) v₂ es)
 (hc:v₂.heap[c]? =some (.chan K #[] false n r false)) (hst:step P (solo (Go.Conc.G fr l) v)= .next (solo g₁ v₁)):g₁.status= .blocked:=
 qh rfl hx (by
  intro cc hcc;have e:cc=rcase c z:=by simpa using hcc
  subst e;exact ways_recv_none hc (partners_solo _ _ _)) hst
def bottom(f:FuncId)(c:Nat):Frame:={fn:=f,tmps:= #[],todo:=[.code (.refuse "")],defers:=[{target:= .collected c,args:= #[]}],mode:= .run,kind:= .normal}
theorem step_ended{g:Goroutine}(hr:g.status= .running){o:Outcome}{es:Array Event}(h:stepG P true g v= .ended o v₁ es){m:Machine}(hst:step P (solo g v)= .next m):False:=by
 rw[step_solo hr,solo_eq_crowd,runT_many_ended (by rfl) h] at hst
 cases hst
theorem no_leave{X:Goroutine->World->Prop}{f:FuncId}{c:Nat}{fn:Func}(hf:P.funcs[fr.fn]? =some fn)(hk:fr.kind= .normal)(hm:fr.mode≠ .run)(hd:fr.defers=[])(hc:z8 v c)(hX:∀g w,X g w->g.callers≠[])
 (h:Must P X (Go.Conc.G fr [bottom f c]) v):∀T d,X (Go.Conc.G fr [bottom f c]) (re v T d):=by
 cases h with
 |stop h=>exact h
 |step hr ht g' w' h1 h2 h3=>
  exfalso;have h2':step P (solo (Go.Conc.G fr [bottom f c]) v)= .next (solo (g' v.tape v.drawn) (w' v.tape v.drawn)):=h2 v.tape v.drawn;have h3':=h3 v.tape v.drawn;generalize g' v.tape v.drawn=g₁ at h2' h3';generalize w' v.tape v.drawn=v₁ at h2' h3';have hcat:fr.catches P=false:=by unfold Frame.catches;rw[hf]
  have e0:stepG P true (Go.Conc.G fr [bottom f c]) v=unwind P true fr [bottom f c] none v:=by
   unfold stepG Go.Conc.G;dsimp only;cases hmm:fr.mode with
   |run=>exact absurd hmm hm
   |returning=>rfl
   |panicking x=>rfl
  have quit:∀{a:Frame} {es:Array Event} {v₂:World},stepG P true (Go.Conc.G fr [bottom f c]) v= .go (Go.Conc.G a []) v₂ es->(∀T d,∃o v' es,stepG P true (Go.Conc.G a []) (re v₂ T d)= .ended o v' es)->False:=by
   intro a es v₂ hs hend;rw[step_solo rfl,runT_solo_go hs] at h2';simp only[Stepped.next.injEq] at h2';obtain⟨rfl,rfl⟩:=ye h2'
   cases h3' with
   |stop hx=>exact hX _ _ (hx v.tape v.drawn) rfl
   |step _ _ _ _ _ k2 _=>
    obtain⟨o,v',es',he⟩:=hend v.tape v.drawn
    exact step_ended rfl he (k2 v.tape v.drawn)
  unfold unwind at e0;rw[hd] at e0;dsimp only at e0
  cases hmm:fr.mode with
  |run=>exact absurd hmm hm
  |returning=>
   rw[hmm,hf] at e0;dsimp only at e0
   cases hres:((results fn fr.tmps).runT P v #[]).1 with
   |ok val v₂=>
    rw[hres] at e0;unfold doReturn at e0;rw[hk] at e0;exact quit (a:=bottom f c) e0 fun T d=>⟨_,_,_,rfl⟩
   |halt hh v₂=>
    rw[hres] at e0;cases hh<;>exact step_ended rfl e0 h2'
  |panicking chain=>
   rw[hmm,hcat] at e0;simp only[Bool.false_eq_true,if_false] at e0;refine quit (a:=(bottom f c).raise chain) e0 fun T d=>?_;obtain⟨o,ho,hch⟩:=hc
   refine⟨.stuck "the deferred calls of a range-over-func loop have been taken" (Frame.pos P ((bottom f c).raise chain)),re v T d,?_⟩;have hrun:∃es,(Instr.takeDeferred c).runT P (re v T d) #[]=(.halt (.stuck "range over a function: the deferred calls have been taken") (re v T d),es):=by
    have ho':(re v T d).heap[c]? =some o:=ho;unfold Instr.takeDeferred getObj;cases o<;>first|(cases hch;done)|skip
    simp only[Bind.bind,Sem.bind,Sem.runT,ho'];exact⟨_,rfl⟩
   obtain⟨es,hrun⟩:=hrun
   refine⟨seen P f es++ #[],?_⟩;have e1:stepG P true (Go.Conc.G ((bottom f c).raise chain) []) (re v T d)=unwind P true ((bottom f c).raise chain) [] none (re v T d):=rfl;rw[e1];have e2:unwind P true ((bottom f c).raise chain) [] none (re v T d)=GStep.after (seen P f ((Instr.takeDeferred c).runT P (re v T d) #[]).2) (match ((Instr.takeDeferred c).runT P (re v T d) #[]).1 with
    | .ok calls w=> .go {frame:={(bottom f c).raise chain with defers:=calls++[]},callers:=[],status:= .running,dying:=none} w
    | .halt _ w=> .ended (.stuck "the deferred calls of a range-over-func loop have been taken" (Frame.pos P ((bottom f c).raise chain))) w):=rfl
   rw[e2,hrun];rfl
end
structure PlainV (v:Value):Prop where
 gr:Gr v
 fix:∀(F:FuncId->Prop) (ρ:Rn) (v':Value),VRel F ρ v v'->v'=v
def put(w:World)(c:Nat)(o:Obj):World:={w with heap:=w.heap.setIfInBounds c o}
theorem qO{w:World}{c:Nat}{o:Obj}(h:w.heap[c]? =some o):put w c o=w:=by
 unfold put;have:w.heap.setIfInBounds c o=w.heap:=by
  apply Array.ext_getElem?;intro j;by_cases hj:c=j
  ·subst hj;rw[Array.getElem?_setIfInBounds_self_of_lt (lt_of_some h),h]
  ·rw[Array.getElem?_setIfInBounds_ne hj]
 rw[this]
theorem put_at{w:World}{c:Nat}{o:Obj}(h:c<w.heap.size):(put w c o).heap[c]? =some o:=Array.getElem?_setIfInBounds_self_of_lt h
theorem put_ne{w:World}{c j:Nat}{o:Obj}(h:c≠j):(put w c o).heap[j]? =w.heap[j]? :=Array.getElem?_setIfInBounds_ne h
theorem yv(w:World)(c:Nat)(o:Obj):(put w c o).heap.size=w.heap.size:=by simp[put]
theorem xe(w:World)(c cap:Nat)(b:Array Value)(cl:Bool)(s r:Nat)(tm:Bool):w.setChan c cap b cl s r tm=put w c (.chan cap b cl s r tm):=rfl
structure Nd where
 ρ:Rn
 fr:Frame
 l:List Frame
 fr':Frame
 l':List Frame
 v:World
section
variable {P:Program} {F:FuncId->Prop} {G:Nat->Prop} {D:Bool->Prop} {k k':CallKind} {tl tl':List Deferred} {cs cs':List Frame}
theorem ky{ρ:Rn}{v w:World}{c:Nat}(h1:∀x x' y y',ρ x x'->ρ y y'->(x=y↔x'=y'))(hcc:ρ c c)(h:WRel F ρ v w){o o':Obj}(ho:ObRel F ρ o o'):WRel F ρ (put v c o) (put w c o'):=by
 intro r r' hr;obtain⟨a,b,e1,e2,hab⟩:=h r r' hr
 obtain⟨_,_,f1,f2,_⟩:=h c c hcc
 by_cases e:c=r
 ·have e':=(h1 c c r r' hcc hr).1 e;subst e;subst e'
  exact⟨o,o',put_at (lt_of_some e1),put_at (lt_of_some e2),ho⟩
 ·have e':¬c=r':=fun k=>e ((h1 c c r r' hcc hr).2 k);exact⟨a,b,(put_ne e).trans e1,(put_ne e').trans e2,hab⟩
theorem uL{N:Nat}{F':FuncId->Prop}{ρ ρ₁ ρ':Rn}{a b v w w₁:World}{c:Nat}(h:WRel F' ρ' v w)(m:Moved N F ρ a w ρ₁ b w₁)(hd:∀x x' y,ρ x y->ρ' x' y->y=c)(hc:z8 w c):WRel F' ρ' v w₁:=by
 intro r r' hr;obtain⟨o,o',e1,e2,ho⟩:=h r r' hr
 refine⟨o,o',e1,?_,ho⟩;by_cases hx:∃x,ρ x r'
 ·obtain⟨x,hx⟩:=hx
  have e:=hd x r r' hx hr;subst e;obtain⟨u,k1,k2⟩:=hc
  rw[e2] at k1;cases k1;exact m.chan' _ _ e2 k2
 ·rw[m.keep' r' (lt_of_some e2) (fun x h=>hx ⟨x,h⟩)];exact e2
end
structure Core (P:Program) (Fp Fc:FuncId->Prop) (Gp Gc:Nat->Prop) (f:FuncId) (c cap K:Nat) (L:List Value) (closeD:Deferred) (child:Frame) (l0:List Frame) (w0:World) (Gb:Nat->Prop)
 (p q:Nd) (w:World) (sent rcvd mp mc:Nat) (bp bc buf:Array Value) (closed:Bool):Prop where
 lkp:Lk P Fp Gp (fun b=>b=true) .normal .deferred [] [closeD] [bottom f c] [child] p.ρ p.fr p.l p.fr' p.l' p.v w
 lkc:Lk P Fc Gc (fun b=>b=false) .normal .normal [] [] [bottom f c] l0 q.ρ q.fr q.l q.fr' q.l' q.v w
 vpc:p.v.heap[c]? =some (.chan K bp false bp.size 0 false)
 vcc:∃a b,q.v.heap[c]? =some (.chan K bc false a b false)
 tp:bp.toList=L.take mp
 tc:bc.toList=L.drop mc
 wc:w.heap[c]? =some (.chan cap buf closed sent rcvd false)
 tb:buf.toList=(L.drop rcvd).take (sent-rcvd)
 le:rcvd<=sent
 room:L.length<K
 sp:p.ρ c c
 sc:q.ρ c c
 disj:∀x x' y,p.ρ x y->q.ρ x' y->y=c
 oldp:∀x y,p.ρ x y->y<w0.heap.size->x=y/\(Gb y\/y=c)
 oldc:∀x y,q.ρ x y->y<w0.heap.size->y=c
 keep:∀y:Nat,y<w0.heap.size->(∀x,¬p.ρ x y)->(∀x,¬q.ρ x y)->w.heap[y]? =w0.heap[y]?
 grow:w0.heap.size<=w.heap.size
 os:w.os=w0.os
 out:w.output=w0.output
 onlyp:∀x y,p.ρ x y->z8 p.v x->x=c/\y=c
 onlyc:∀x y,q.ρ x y->z8 q.v x->x=c/\y=c
 idp:∀x,Gb x->p.ρ x x
section
variable {P:Program} {Fp Fc:FuncId->Prop} {Gp Gc:Nat->Prop} {f:FuncId} {c cap K:Nat} {L:List Value} {closeD:Deferred} {child:Frame} {l0:List Frame} {w0:World} {Gb:Nat->Prop} {p q:Nd} {w:World} {sent rcvd mp mc:Nat} {bp bc buf:Array Value} {closed:Bool}
theorem Core.chan(h:Core P Fp Fc Gp Gc f c cap K L closeD child l0 w0 Gb p q w sent rcvd mp mc bp bc buf closed):z8 w c:=⟨_,h.wc,rfl⟩
theorem Core.p_moved(h:Core P Fp Fc Gp Gc f c cap K L closeD child l0 w0 Gb p q w sent rcvd mp mc bp bc buf closed){ρ₁:Rn}{v₁ w₁:World}{T:Nat->Question->Nat}{d:Nat}(m:Moved P.globals.size Fp p.ρ (re p.v T d) w ρ₁ v₁ w₁){a a':Frame}{l l':List Frame}
 (hs:SRl P Fp Gp (fun b=>b=true) .normal .deferred [] [closeD] [bottom f c] [child] ρ₁ (a::l) (a'::l')):Core P Fp Fc Gp Gc f c cap K L closeD child l0 w0 Gb ⟨ρ₁,a,l,a',l',v₁⟩ q w₁ sent rcvd mp mc bp bc buf closed:=by
 have hlt:∀x y,q.ρ x y->y<w.heap.size:=fun x y hxy=>(h.lkc.rel.lt hxy).2;refine⟨(h.lkp.tape T d w.tape w.drawn).moved m hs,⟨h.lkc.st,h.lkc.one,uL h.lkc.rel m h.disj h.chan,by rw[m.os',h.lkc.os],h.lkc.sz,Nat.le_trans h.lkc.sz' m.grow',h.lkc.glob⟩,m.chan c _ h.vpc rfl,h.vcc,h.tp,h.tc,m.chan' c _ h.wc rfl,h.tb,h.le,h.room,m.ext _ _ h.sp,h.sc,?_,?_,h.oldc,?_,
  Nat.le_trans h.grow m.grow',by rw[m.os',h.os],by rw[m.output',h.out],?_,h.onlyc,fun x hx=>m.ext _ _ (h.idp x hx)⟩
 ·intro x x' y hx hx';rcases m.new x y hx with k|⟨_,k⟩
  ·exact h.disj x x' y k hx'
  ·have:=hlt x' y hx';omega
 ·intro x y hx hy;rcases m.new x y hx with k|⟨_,k⟩
  ·exact h.oldp x y k hy
  ·have:=h.grow;omega
 ·intro y hy h1 h2;have h3:∀x,¬p.ρ x y:=fun x k=>h1 x (m.ext _ _ k);rw[m.keep' y (Nat.lt_of_lt_of_le hy h.grow) h3];exact h.keep y hy h3 h2
 ·intro x y hx ⟨o,k1,k2⟩
  have k3:=m.only x o k1 k2;rcases m.new x y hx with k|⟨k,_⟩
  ·exact h.onlyp x y k ⟨o,k3,k2⟩
  ·have:=lt_of_some k3
   exact absurd k (by show ¬(re p.v T d).heap.size<=x;omega)
theorem Core.c_moved(h:Core P Fp Fc Gp Gc f c cap K L closeD child l0 w0 Gb p q w sent rcvd mp mc bp bc buf closed){ρ₁:Rn}{v₁ w₁:World}{T:Nat->Question->Nat}{d:Nat}(m:Moved P.globals.size Fc q.ρ (re q.v T d) w ρ₁ v₁ w₁){a a':Frame}{l l':List Frame}
 (hs:SRl P Fc Gc (fun b=>b=false) .normal .normal [] [] [bottom f c] l0 ρ₁ (a::l) (a'::l')):Core P Fp Fc Gp Gc f c cap K L closeD child l0 w0 Gb p ⟨ρ₁,a,l,a',l',v₁⟩ w₁ sent rcvd mp mc bp bc buf closed:=by
 have hlt:∀x y,p.ρ x y->y<w.heap.size:=fun x y hxy=>(h.lkp.rel.lt hxy).2;obtain⟨ca,cb,hvc⟩:=h.vcc
 refine⟨⟨h.lkp.st,h.lkp.one,uL h.lkp.rel m (fun x x' y a b=>h.disj x' x y b a) h.chan,by rw[m.os',h.lkp.os],h.lkp.sz,Nat.le_trans h.lkp.sz' m.grow',h.lkp.glob⟩,(h.lkc.tape T d w.tape w.drawn).moved m hs,h.vpc,⟨ca,cb,m.chan c _ hvc rfl⟩,h.tp,h.tc,m.chan' c _ h.wc rfl,h.tb,h.le,h.room,h.sp,m.ext _ _ h.sc,?_,h.oldp,?_,?_,
  Nat.le_trans h.grow m.grow',by rw[m.os',h.os],by rw[m.output',h.out],h.onlyp,?_,h.idp⟩
 ·intro x x' y hx hx';rcases m.new x' y hx' with k|⟨_,k⟩
  ·exact h.disj x x' y hx k
  ·have:=hlt x y hx;omega
 ·intro x y hx hy;rcases m.new x y hx with k|⟨_,k⟩
  ·exact h.oldc x y k hy
  ·have:=h.grow;omega
 ·intro y hy h1 h2;have h3:∀x,¬q.ρ x y:=fun x k=>h2 x (m.ext _ _ k);rw[m.keep' y (Nat.lt_of_lt_of_le hy h.grow) h3];exact h.keep y hy h1 h3
 ·intro x y hx ⟨o,k1,k2⟩
  have k3:=m.only x o k1 k2;rcases m.new x y hx with k|⟨k,_⟩
  ·exact h.onlyc x y k ⟨o,k3,k2⟩
  ·have:=lt_of_some k3
   exact absurd k (by show ¬(re q.v T d).heap.size<=x;omega)
theorem Core.at(h:Core P Fp Fc Gp Gc f c cap K L closeD child l0 w0 Gb p q w sent rcvd mp mc bp bc buf closed)(d:Nat):Core P Fp Fc Gp Gc f c cap K L closeD child l0 w0 Gb p q (w.at d) sent rcvd mp mc bp bc buf closed:=
 ⟨⟨h.lkp.st,h.lkp.one,h.lkp.rel,h.lkp.os,h.lkp.sz,h.lkp.sz',h.lkp.glob⟩,⟨h.lkc.st,h.lkc.one,h.lkc.rel,h.lkc.os,h.lkc.sz,h.lkc.sz',h.lkc.glob⟩,h.vpc,h.vcc,h.tp,h.tc,h.wc,h.tb,h.le,h.room,h.sp,h.sc,h.disj,h.oldp,h.oldc,h.keep,h.grow,h.os,h.out,h.onlyp,h.onlyc,h.idp⟩
theorem Core.turn(h:Core P Fp Fc Gp Gc f c cap K L closeD child l0 w0 Gb p q w sent rcvd mp mc bp bc buf closed){a a' b b':Frame}(hp:SRl P Fp Gp (fun b=>b=true) .normal .deferred [] [closeD] [bottom f c] [child] p.ρ (a::p.l) (a'::p.l'))(hq:SRl P Fc Gc (fun b=>b=false) .normal .normal [] [] [bottom f c] l0 q.ρ (b::q.l) (b'::q.l'))
 {sent' rcvd' mp' mc' x y:Nat} {bp' bc' buf':Array Value} {closed':Bool} (tp:bp'.toList=L.take mp') (tc:bc'.toList=L.drop mc') (tb:buf'.toList=(L.drop rcvd').take (sent'-rcvd')) (le:rcvd'<=sent'):
 Core P Fp Fc Gp Gc f c cap K L closeD child l0 w0 Gb {p with fr:=a,fr':=a',v:=put p.v c (.chan K bp' false bp'.size 0 false)} {q with fr:=b,fr':=b',v:=put q.v c (.chan K bc' false x y false)} (put w c (.chan cap buf' closed' sent' rcvd' false)) sent' rcvd' mp' mc' bp' bc' buf' closed':=by
 obtain⟨ca,cb,hvc⟩:=h.vcc
 have hl:c<w.heap.size:=lt_of_some h.wc;have only:∀{v:World} {o:Obj} {z:Nat},z8 v c->z8 (put v c o) z->z8 v z:=by
  rintro v o z hc ⟨u,k1,k2⟩;by_cases e:c=z
  ·exact e▸hc
  ·rw[put_ne e] at k1;exact⟨u,k1,k2⟩
 refine⟨⟨hp,h.lkp.one,ky h.lkp.one.inj h.sp h.lkp.rel (.chan ..),h.lkp.os,by rw[yv];exact h.lkp.sz,by rw[yv];exact h.lkp.sz',h.lkp.glob⟩,
  ⟨hq,h.lkc.one,ky h.lkc.one.inj h.sc h.lkc.rel (.chan ..),h.lkc.os,by rw[yv];exact h.lkc.sz,by rw[yv];exact h.lkc.sz',h.lkc.glob⟩,
  put_at (lt_of_some h.vpc),⟨x,y,put_at (lt_of_some hvc)⟩,tp,tc,put_at hl,tb,le,h.room,h.sp,h.sc,h.disj,h.oldp,h.oldc,fun z hz h1 h2=>?_,by rw[yv];exact h.grow,h.os,h.out,
  fun z z' hz hc=>h.onlyp z z' hz (only ⟨_,h.vpc,rfl⟩ hc),fun z z' hz hc=>h.onlyc z z' hz (only ⟨_,hvc,rfl⟩ hc),h.idp⟩
 by_cases e:c=z
 ·exact(h1 c (e▸h.sp)).elim
 ·rw[put_ne e];exact h.keep z hz h1 h2
end
def dom(ρ:Rn):Rn:=fun x y=>x=y/\∃z,ρ x z
section
variable {F:FuncId->Prop} {ρ:Rn}
end
section
variable {P:Program} {F:FuncId->Prop} {G:Nat->Prop} {f:FuncId} {c K:Nat} {L:List Value} {X:Goroutine->World->Prop}
theorem noRec_normal(cs:List Frame):NoRec .normal cs:=⟨fun fr h=>by unfold tryRecover;rw[h],by simp⟩
theorem goes_or_end{D:Bool->Prop}(hP:SimP P F G D){k':CallKind}{tl':List Deferred}{cs':List Frame}{ρ:Rn}{fr fr':Frame}{l l':List Frame}{v:World}(hs:SRl P F G D .normal k' [] tl' [bottom f c] cs' ρ (fr::l) (fr'::l'))
 (hc:z8 v c) (hX:∀g w,X g w->g.callers≠[]) (hM:Must P X (Go.Conc.G fr l) v):Goes1 [] [bottom f c] fr l\/∀T d,X (Go.Conc.G fr l) (re v T d):=by
 by_cases hg:Goes1 [] [bottom f c] fr l
 ·exact .inl hg
 ·right;unfold Goes1 at hg;simp only[Classical.not_imp,Classical.not_not] at hg;obtain⟨h1,h2,h3⟩:=hg
  cases hs with
  |base h hk hk'=>
   obtain⟨fn,hfn⟩:=h.mem
   exact no_leave hfn hk h1 h2 hc hX hM
  |push h hk hk' hl=>
   exfalso;have:∀{a b:List Frame},SRl P F G D .normal k' [] tl' [bottom f c] cs' ρ a b->2<=a.length:=by
    intro a b hab;cases hab with
    |base=>simp
    |push _ _ _ hab=>cases hab<;>simp
   have:=this hl
   simp at h3;omega
def jA(ρ:Rn)(v:World)(c:Nat):Prop:=∀x y,ρ x y->z8 v x->x=c/\y=c
theorem xE{N:Nat}{ρ ρ₁:Rn}{v w v₁ w₁:World}(m:Moved N F ρ v w ρ₁ v₁ w₁)(h:jA ρ v c):jA ρ₁ v₁ c:=by
 rintro x y hx ⟨o,k1,k2⟩;have k3:=m.only x o k1 k2;rcases m.new x y hx with k|⟨k,_⟩
 ·exact h x y k ⟨o,k3,k2⟩
 ·have:=lt_of_some k3
  omega
theorem gu{ρ:Rn}{v:World}{o:Obj}(hc:z8 v c)(h:jA ρ v c):jA ρ (put v c o) c:=by
 rintro z z' hz ⟨u,k1,k2⟩;by_cases e:c=z
 ·exact h z z' hz (e▸hc)
 ·rw[put_ne e] at k1;exact h z z' hz ⟨u,k1,k2⟩
theorem zbm(hP:SimP P F G (fun b=>b=true)){k':CallKind}{tl':List Deferred}{cs':List Frame}(hN:NoRec k' cs')(hX1:∀g w,X g w->g.callers≠[])(hX2:∀g w (b:Array Value) n r,X g w->w.heap[c]? =some (.chan K b false n r false)->b.toList=L):
 ∀(g:Goroutine) (v:World),Must P X g v->∀(ρ:Rn) (fr:Frame) (l:List Frame) (fr':Frame) (l':List Frame) (w:World) (b:Array Value) (n r:Nat),g=Go.Conc.G fr l->Lk P F G (fun b=>b=true) .normal k' [] tl' [bottom f c] cs' ρ fr l fr' l' v w->ρ c c->jA ρ v c->
  v.heap[c]? =some (.chan K b false n r false)->b.toList <+: L:=by
 intro g v hM;induction hM with
 |stop h=>
  intro ρ fr l fr' l' w b n r hg hl hcc ho hc;rw[hX2 _ _ b n r (h (fun _ _=>0) 0) hc];exact List.prefix_refl _
 | @step g v hr ht g' v' h1 h2 h3 ih=>
   intro ρ fr l fr' l' w b n r hg hl hcc ho hc;subst hg;have hch:z8 v c:=⟨_,hc,rfl⟩;rcases goes_or_end hP hl.st hch hX1 (.step hr ht g' v' h1 h2 h3) with hgo|hend
   case inr=>
    rw[hX2 _ _ b n r (hend (fun _ _=>0) 0) hc];exact List.prefix_refl _
   case inl=>
    have hst:step P (solo (Go.Conc.G fr l) (re v w.tape w.drawn))= .next (solo (g' w.tape w.drawn) (v' w.tape w.drawn)):=h2 w.tape w.drawn;have hrun:=h1 w.tape w.drawn;have ih':=ih w.tape w.drawn;generalize g' w.tape w.drawn=g₁ at hst hrun ih';generalize v' w.tape w.drawn=v₁ at hst ih';rcases node_step hP (noRec_normal _) hN hl hgo hst true with⟨ρ₁,fr₁,l₁,fr₁',l₁',w₁,es',e1,e2,m,hs,he⟩|⟨ρ₁,fr₁,l₁,fr₁',l₁',v₂,w₁,es,es',cc,cc',s,e1,e2,hcc',hD,hsh,m,hs,he⟩
    ·subst e2;have hl₁:Lk P F G (fun b=>b=true) .normal k' [] tl' [bottom f c] cs' ρ₁ fr₁ l₁ fr₁' l₁' v₁ w₁:=(hl.tape w.tape w.drawn w.tape w.drawn).moved m hs;exact ih' ρ₁ fr₁ l₁ fr₁' l₁' w₁ b n r rfl hl₁ (m.ext _ _ hcc) (xE m ho) (m.chan c _ hc rfl)
    ·have ho₂:jA ρ₁ v₂ c:=xE m ho;obtain⟨q1,q2⟩:=chan_of hcc' e2 hst hrun ho₂
     have hc₂:v₂.heap[c]? =some (.chan K b false n r false):=m.chan c _ hc rfl;obtain⟨x,hx⟩:∃x,cc.send=some x:=Option.isSome_iff_exists.1 hD
     have hs':s= .send:=by
      cases s with
      |send=>rfl
      |recv ok=>have:=hsh cc (by simp);rw[hx] at this;cases this
      |select=>exact hsh.elim
     subst hs';rw[uu q1 hx] at e2;by_cases hroom:b.size<K
     ·obtain⟨rfl,rfl⟩:=gy e2 hc₂ hroom hst
      have hl₁:Lk P F G (fun b=>b=true) .normal k' [] tl' [bottom f c] cs' ρ₁ fr₁ l₁ fr₁' l₁' v₂ w₁:=(hl.tape w.tape w.drawn w.tape w.drawn).moved m hs;have hput:Lk P F G (fun b=>b=true) .normal k' [] tl' [bottom f c] cs' ρ₁ (fr₁.finish undef) l₁ (fr₁'.finish undef) l₁' (v₂.setChan c K (b.push x) false (n+1) r false) (put w₁ c (.chan K (b.push x) false (n+1) r false)):=by
       rw[xe];exact⟨hl₁.st.swap (fun _ _ h=>h.finish .undefs) (kind_finish _ _) (kind_finish _ _),hl₁.one,ky hl₁.one.inj (m.ext _ _ hcc) hl₁.rel (.chan ..),hl₁.os,by rw[yv];exact hl₁.sz,by rw[yv];exact hl₁.sz',hl₁.glob⟩
      have:=ih' ρ₁ _ l₁ _ l₁' _ (b.push x) (n+1) r rfl hput (m.ext _ _ hcc) (by rw[xe];exact gu ⟨_,hc₂,rfl⟩ ho₂) (by rw[xe];exact put_at (lt_of_some hc₂))
      rw[Array.toList_push] at this;exact(List.prefix_append _ _).trans this
     ·exfalso;have:=qh rfl e2 (by
       intro y hy;have e:y=scase c x cc.zero:=by simpa using hy
       subst e;exact ways_send_none hc₂ (by omega) (partners_solo _ _ _)) hst
      rw[hrun] at this;cases this
end
open Go.ConcN (sumTo upd sumTo_upd upd_ne upd_same)
def Pins(o:Obj)(r:Option Obj):Prop:=∀(F:FuncId->Prop) (ρ:Rn) (o':Obj),ObRel F ρ o o'->r=some o'
section
variable {n c:Nat} {Op Oc:Nat->Prop} {t u:Trace} {pc:Nat}
theorem Duo.mute(h:Duo n c Op Oc t){g:Nat}(h0:g≠0)(h1:g≠n)(hu:∀op∈u,op.g=g)(hn:∀op∈u,op.act.touch? =none):Duo n c Op Oc (t++u):=
 ⟨fun said=>xU (h.clean said) hn,
  cls_app (K:=DuoK n c Op Oc) (fun i a k=>k.app (fun _ x=>x) fun _ x=>x) h.cls fun i op a _ _ hop ha _=>(by rw[hn op hop] at ha;cases ha),
  fun i g h1 h2 h3 h4=>jI (p:=fun g=>g≠n) h.over (fun op hop=> .inr (.inr (hn op hop))) i g h1 h2 h3 h4,
  (Deaf_other t h0 u hu).trans h.h0,(Deaf_other t h1 u hu).trans h.hn⟩
theorem DuoC.mute(h:DuoC n c Op Oc pc t){g:Nat}(h0:g≠0)(hu:∀op∈u,op.g=g)(hn:∀op∈u,op.act.touch? =none):DuoC n c Op Oc pc (t++u):=by
 have hpc:pc<t.size:=lt_of_act? h.close.1;refine⟨fun said=>xU (h.clean said) hn,
  cls_app (K:=DuoCK c Op pc) (fun i a k=>k.app) h.cls fun i op a _ _ hop ha _=>(by rw[hn op hop] at ha;cases ha),
  ⟨(act?_old hpc).trans h.close.1,(heard_old hpc).2 h.close.2⟩,fun i g hg hne hc=>?_,(Deaf_other t h0 u hu).trans h.h0⟩
 obtain⟨x,hx,hm⟩:=hc
 obtain⟨op,hop,hox⟩:=touch_of hx
 rcases getElem?_append_cases hop with⟨hi,hop'⟩|⟨_,hopu⟩
 ·rcases h.over i g (by simpa [Trace.g?,getElem?_append_old hi] using hg) hne ((counts_old hi).1 ⟨x,hx,hm⟩) with⟨j,hj,hb⟩|hb
  ·have hjl:j<t.size:=by
    unfold Trace.g? at hj
    obtain⟨z,hz,_⟩:=Option.map_eq_some_iff.1 hj
    exact lt_size_of_getElem? hz
   exact .inl ⟨j,by simpa [Trace.g?,getElem?_append_old hjl] using hj,hb_app u hb⟩
  ·exact .inr (hb.app u)
 ·rw[hn op hopu] at hox;cases hox
end
section
variable {P:Program} {gs:Array Goroutine} {w:World} {sl:Option (Nat×Nat)} {t:Trace}
def Reach(P:Program)(Fin:Array Goroutine->World->Option (Nat×Nat)->Trace->Prop)(gs:Array Goroutine)(w:World)(sl:Option (Nat×Nat))(t:Trace):Prop:=
 ∃N gs' w' sl' t',runNT P N (crowd gs w sl) t=(.next (crowd gs' w' sl'),t')/\Fin gs' w' sl' t'
variable {Fin:Array Goroutine->World->Option (Nat×Nat)->Trace->Prop}
theorem Reach.here(h:Fin gs w sl t):Reach P Fin gs w sl t:=⟨0,gs,w,sl,t,rfl,h⟩
theorem Reach.step{gs₁:Array Goroutine}{w₁:World}{sl₁:Option (Nat×Nat)}{ops:Array MemOp}(hs:stepT P (crowd gs w sl)=(.next (crowd gs₁ w₁ sl₁),ops))(h:Reach P Fin gs₁ w₁ sl₁ (t++ops)):Reach P Fin gs w sl t:=by
 obtain⟨N,gs',w',sl',t',hr,hf⟩:=h
 exact⟨N+1,gs',w',sl',t',by simp only[runNT,hs];exact hr,hf⟩
def Calm(w:World)(gs:Array Goroutine):Prop:=∀(j:Nat) (x:Goroutine),gs[j]? =some x->x.again w=x
theorem jj{g g':Goroutine}(h:Calm w gs):gs.map (woken P g g' w)=gs:=by
 apply Array.ext_getElem?;intro j;rw[Array.getElem?_map];cases hx:gs[j]? with
 |none=>rfl
 |some x=>
  simp only[Option.map_some,Option.some.injEq];unfold woken;split
  ·exact h j x hx
  ·rfl
theorem ke{m:Nat->Nat}{i d:Nat}{g:Goroutine}(hi:gs[i]? =some g)(hr:g.status= .running)(h0:i≠0)(hq:QuitsD P (m i) d g)(hc:Calm w gs):
 ∃g' k ops,m i=k+1/\runT P (crowd gs w sl) i=(.next (crowd (gs.setIfInBounds i g') w sl),ops)/\(∀op∈ops,op.g=i)/\(∀op∈ops,op.act.touch? =none)/\(∀t,Deaf t i=d->QuitsD P k (Deaf (t++ops) i) g'):=by
 cases hmi:m i with
 |zero=>rw[hmi] at hq;rw[hq.1] at hr;cases hr
 |succ k=>
  rw[hmi] at hq;rcases hq with⟨hf,_⟩|⟨_,g',es,hm,hst,hq'⟩
  ·rw[hf] at hr;cases hr
  ·have hi0:(i==0)=false:=by simp;omega
   have hrun:=runT_crowd_go (P:=P) (sl:=sl) (i:=i) hi (by rw[hi0];exact hst w)
   rw[jj hc] at hrun;refine⟨g',k,_,rfl,hrun,fun op hop=>?_,fun op hop=>?_,fun t ht=>?_⟩
   ·obtain⟨e,_,rfl⟩:=Go.Conc.mem_ofEvents hop;rfl
   ·obtain⟨e,he,rfl⟩:=Go.Conc.mem_ofEvents hop;exact touch_mute (hm e he)
   ·rw[Deaf_own,ht];exact hq'
end
structure PhB (P:Program) (Fp Fc:FuncId->Prop) (Gp Gc:Nat->Prop) (f:FuncId) (n c cap K:Nat) (L:List Value) (closeD:Deferred) (child:Frame) (l0:List Frame) (w0:World) (Gb:Nat->Prop)
 (p q:Nd) (gs:Array Goroutine) (w:World) (t:Trace) (m:Nat->Nat) (rcvd:Nat) (bp bc buf:Array Value):Prop where
 core:Core P Fp Fc Gp Gc f c cap K L closeD child l0 w0 Gb p q w L.length rcvd L.length rcvd bp bc buf true
 duo:∃Op pc,(∀b,Op b->(∃x,p.ρ x b)/\b≠c)/\DuoC n c Op (fun b=>(∃x,q.ρ x b)/\b≠c) pc t
 zero:∃o,gs[0]? =some {Go.Conc.G q.fr' q.l' with offers:=o}
 others:∀(j:Nat) (x:Goroutine),j≠0->gs[j]? =some x->QuitsD P (m j) (Deaf t j) x
 above:∀j:Nat,gs.size<=j->Deaf t j=0
 vars:∀y:Nat,Gb y->y≠c->∃o,p.v.heap[y]? =some o/\Pins o (w0.heap[y]?)
section
variable {P:Program} {Fp Fc:FuncId->Prop} {Gp Gc:Nat->Prop} {f:FuncId} {n c cap K:Nat} {L:List Value} {closeD:Deferred} {child:Frame} {l0:List Frame} {w0:World} {Gb:Nat->Prop} {p q:Nd} {gs:Array Goroutine} {w:World} {sl:Option (Nat×Nat)} {t:Trace} {m:Nat->Nat} {rcvd:Nat} {bp bc buf:Array Value}
 {Xc:Goroutine->World->Prop}
def jk(P:Program)(f:FuncId)(c K:Nat)(g:Goroutine)(v:World):Prop:=
 ∃fr z ok,g=Go.Conc.G fr [bottom f c]/\fr.mode= .run/\(∀T d,stepG P true g (re v T d)= .comm g #[rcase c z] true (.recv ok) (re v T d) #[])/\∃a b,v.heap[c]? =some (.chan K #[] false a b false)
theorem zeo(h:PhB P Fp Fc Gp Gc f n c cap K L closeD child l0 w0 Gb p q gs w t m rcvd bp bc buf)(w':World):Calm w' gs:=by
 intro j x hx;by_cases hj:j=0
 ·subst hj;obtain⟨o,ho⟩:=h.zero
  rw[ho] at hx;cases hx;exact again_running w' (.inl rfl)
 ·exact again_running w' (h.others j x hj hx).status
theorem set_get{gs:Array Goroutine}{i j:Nat}{x y:Goroutine}(h:(gs.setIfInBounds i x)[j]? =some y):(j=i/\y=x)\/(j≠i/\gs[j]? =some y):=by
 by_cases e:i=j
 ·subst e;by_cases hlt:i<gs.size
  ·rw[Array.getElem?_setIfInBounds_self_of_lt hlt] at h;exact .inl ⟨rfl,(Option.some.inj h).symm⟩
  ·rw[Array.getElem?_eq_none (by simpa using hlt)] at h;cases h
 ·rw[Array.getElem?_setIfInBounds_ne e] at h;exact .inr ⟨fun k=>e k.symm,h⟩
structure DoneP (P:Program) (Fp Fc:FuncId->Prop) (Gp Gc:Nat->Prop) (f:FuncId) (c cap K:Nat) (L:List Value) (closeD:Deferred) (child:Frame) (l0:List Frame) (w0:World) (Gb:Nat->Prop) (Xc:Goroutine->World->Prop)
 (p q:Nd) (gs:Array Goroutine) (w:World) (t:Trace) (m:Nat->Nat) (bp bc buf:Array Value) (ok:Bool) (z z':Value) (B:Nat):Prop where
 core:Core P Fp Fc Gp Gc f c cap K L closeD child l0 w0 Gb p q w L.length L.length L.length L.length bp bc buf true
 zero:gs[0]? =some (Go.Conc.G (q.fr'.finish (recvd ok z' false)) q.l')
 zrel:VRel Fc q.ρ z z'
 at_:Xc (Go.Conc.G q.fr q.l) q.v/\∀T d,stepG P true (Go.Conc.G q.fr q.l) (re q.v T d)= .comm (Go.Conc.G q.fr q.l) #[rcase c z] true (.recv ok) (re q.v T d) #[]
 others:∀(j:Nat) (x:Goroutine),j≠0->gs[j]? =some x->QuitsD P (m j) (Deaf t j) x
 above:∀j:Nat,gs.size<=j->Deaf t j=0
 past:Past (fun _=>False) B t
 vars:∀y:Nat,Gb y->y≠c->∃o,p.v.heap[y]? =some o/\Pins o (w0.heap[y]?)
theorem qB{m:Nat->Nat}{u:Trace}{x0:Goroutine}(h:∀(j:Nat) (x:Goroutine),j≠0->gs[j]? =some x->QuitsD P (m j) (Deaf t j) x)(hu:∀op∈u,op.g=0):∀(j:Nat) (x:Goroutine),j≠0->(gs.setIfInBounds 0 x0)[j]? =some x->QuitsD P (m j) (Deaf (t++u) j) x:=by
 intro j x hj hx;rcases set_get hx with⟨e,_⟩|⟨_,hx⟩
 ·exact absurd e hj
 ·rw[Deaf_other t (g':=0) (Ne.symm hj) u hu];exact h j x hj hx
theorem xq{u:Trace}{i:Nat}{x0:Goroutine}(hi:i<gs.size)(h:∀j:Nat,gs.size<=j->Deaf t j=0)(hu:∀op∈u,op.g=i):∀j:Nat,(gs.setIfInBounds i x0).size<=j->Deaf (t++u) j=0:=by
 intro j hj;have:gs.size<=j:=by simpa using hj
 rw[Deaf_other t (g':=i) (by omega) u hu]
 exact h j this
theorem lt_of_get{i:Nat}{x:Goroutine}(h:gs[i]? =some x):i<gs.size:=(Array.getElem?_eq_some_iff.1 h).1
theorem zfj{rcvd:Nat}(hl:(buf.toList:List Value)=(L.drop rcvd).take (L.length-rcvd)):buf.toList=L.drop rcvd:=by
 rw[hl,List.take_of_length_le (by simp)]
theorem uM(h:PhB P Fp Fc Gp Gc f n c cap K L closeD child l0 w0 Gb p q gs w t m rcvd bp bc buf)(i:Nat)(r:Nat)(b:Bool):partners (gs.setIfInBounds i ph) r b=[]:=by
 refine partners_nil fun j x hx=>offersAt_of_not_blocked ?_ r b;rcases set_get hx with⟨_,rfl⟩|⟨_,hx⟩
 ·simp[ph]
 ·by_cases hj:j=0
  ·subst hj;obtain⟨o,ho⟩:=h.zero
   rw[ho] at hx;cases hx;simp[Go.Conc.G]
  ·rcases(h.others j x hj hx).status with e|e<;>rw[e]<;>simp
theorem recv_tail{L:List Value}{b:Array Value}{k:Nat}(h:b.toList=L.drop k)(hne:0<b.size):(b.extract 1 b.size).toList=L.drop (k+1)/\k<L.length/\L[k]? =some (b.getD 0 undef):=by
 obtain⟨l⟩:=b
 simp only at h
 subst h;have hk:k<L.length:=by simp at hne;omega
 refine⟨?_,hk,?_⟩
 ·simp only[List.extract_toArray,List.size_toArray,List.length_drop];rw[List.extract_eq_drop_take',List.take_of_length_le (by simp),List.drop_drop]
 ·simp[hk]
theorem zcY{L:List Value}{k:Nat}(h:([]:List Value)=L.drop k)(hk:k<=L.length):k=L.length:=by
 have:=congrArg List.length h
 simp at this;omega
theorem zaE{D:Bool->Prop}{F:FuncId->Prop}{G:Nat->Prop}{tl tl':List Deferred}{cs cs':List Frame}{ρ:Rn}{fr fr':Frame}{l l':List Frame}{v:World}(hP:SimP P F G D)(h:Lk P F G D .normal .normal tl tl' cs cs' ρ fr l fr' l' v w)(hm:fr.mode= .run){z:Value}{ok:Bool}
 (hx:stepG P true (Go.Conc.G fr l) (re v w.tape w.drawn)= .comm (Go.Conc.G fr l) #[rcase c z] true (.recv ok) (re v w.tape w.drawn) #[]) (b':Bool):
 ∃(ρ₁:Rn) (fr₁':Frame) (l₁':List Frame) (w₁:World) (es':Array Event) (cc':CommCase),stepG P b' (Go.Conc.G fr' l') w= .comm (Go.Conc.G fr₁' l₁') #[cc'] true (.recv ok) w₁ es'/\CRel F ρ₁ (rcase c z) cc'/\
  Moved P.globals.size F ρ (re v w.tape w.drawn) w ρ₁ (re v w.tape w.drawn) w₁/\SRl P F G D .normal .normal tl tl' cs cs' ρ₁ (fr::l) (fr₁'::l₁')/\∀e∈es',EvR ρ₁ w e:=by
 have hs:=gd (w:=re v w.tape w.drawn) (b:=true) (b':=b') hP h.glob (noRec_normal _) (noRec_normal _) h.st h.one (fun r r' hr=>h.rel r r' hr) (zbN h) (fun hne=>absurd hm hne);generalize stepG P true (Go.Conc.G fr l) (re v w.tape w.drawn)=x at hs hx;generalize hy:stepG P b' (Go.Conc.G fr' l') w=y at hs;cases hs with
 |go=>cases hx
 | @comm ρ₁ fr₁ fr₁' l₁ l₁' v₂ w₁ es es' c₀ c' s m hsr hc hsh he=>
   simp only[GStep.comm.injEq,Go.Conc.G,Goroutine.mk.injEq,and_true] at hx;obtain⟨⟨rfl,rfl⟩,rfl,-,rfl,rfl,rfl⟩:=hx
   generalize hcs:(#[rcase c z]:Array CommCase)=arr at hc;cases hc with
   |one hc hd=>
    simp only[Array.mk.injEq,List.cons.injEq,and_true] at hcs;subst hcs;exact⟨ρ₁,fr₁',l₁',w₁,es',_,rfl,hc,m,hsr,he⟩
 |ended=>cases hx
theorem roundB(hPc:SimP P Fc Gc (fun b=>b=false))(hL:∀x∈L,PlainV x)(hS:yG Xc)(hX:∀g v,Xc g v->jk P f c K g v){Fin:Array Goroutine->World->Option (Nat×Nat)->Trace->Prop}
 (hFin:∀p q gs w sl t m bp bc buf ok z z' B,DoneP P Fp Fc Gp Gc f c cap K L closeD child l0 w0 Gb Xc p q gs w t m bp bc buf ok z z' B->Fin gs w sl t)
 (h:PhB P Fp Fc Gp Gc f n c cap K L closeD child l0 w0 Gb p q gs w t m rcvd bp bc buf)
 (hnode:(∀T d,Xc (Go.Conc.G q.fr q.l) (re q.v T d))\/(Goes1 [] [bottom f c] q.fr q.l/\∀T d,∃g' v',step P (solo (Go.Conc.G q.fr q.l) (re q.v T d))= .next (solo g' v')/\g'.status= .running/\
  ∀(p q:Nd) (gs:Array Goroutine) (w:World) (sl:Option (Nat×Nat)) (t:Trace) (m:Nat->Nat) (rcvd:Nat) (bp bc buf:Array Value),g'=Go.Conc.G q.fr q.l->v'=q.v->PhB P Fp Fc Gp Gc f n c cap K L closeD child l0 w0 Gb p q gs w t m rcvd bp bc buf->Reach P Fin gs w sl t))
 (hinner:∀(gs':Array Goroutine) (t':Trace) (m':Nat->Nat) (sl':Option (Nat×Nat)) (d:Nat),PhB P Fp Fc Gp Gc f n c cap K L closeD child l0 w0 Gb p q gs' (w.at d) t' m' rcvd bp bc buf->sumTo gs'.size m'<sumTo gs.size m->Reach P Fin gs' (w.at d) sl' t'):Reach P Fin gs w sl t:=by
 obtain⟨o,h0⟩:=h.zero
 have haw:∀g∈gs,awake g:=by
  intro g hg;obtain⟨i,hi,rfl⟩:=Array.mem_iff_getElem.1 hg
  rcases Nat.eq_zero_or_pos i with rfl|hpos
  ·have e:gs[0]={Go.Conc.G q.fr' q.l' with offers:=o}:=by
    have:=Array.getElem?_eq_getElem hi
    rw[h0] at this;exact(Option.some.inj this).symm
   rw[e];exact awake_of (.inl rfl)
  ·exact awake_of ((h.others i _ (by omega) (Array.getElem?_eq_getElem hi)).status.elim .inl fun x=> .inr (.inr x))
 obtain⟨i,g,d,sl',hi,hg,hst⟩:=crowd_pick (P:=P) (w:=w) (sl:=sl) haw ⟨0,_,h0,rfl⟩
 have hd:PhB P Fp Fc Gp Gc f n c cap K L closeD child l0 w0 Gb p q gs (w.at d) t m rcvd bp bc buf:=⟨h.core.at d,h.duo,h.zero,h.others,h.above,h.vars⟩;have hcore:=hd.core;have only:jA q.ρ q.v c:=hcore.onlyc;obtain⟨va,vb,hvc⟩:=hcore.vcc
 have hbl:buf.toList=L.drop rcvd:=zfj hcore.tb;by_cases hi0:i=0
 ·subst hi0;rw[h0] at hi;obtain rfl:=Option.some.inj hi;rcases hnode with hend|⟨hgo,hkid⟩
  ·
   obtain⟨fr,z,ok,eG,hmode,hcomm,ca,cb,hch⟩:=hX _ _ (hend (w.at d).tape (w.at d).drawn)
   have eG':=eG;simp only[Go.Conc.G,Goroutine.mk.injEq,and_true] at eG';obtain⟨e1,e2⟩:=eG'
   have hx:=hcomm (w.at d).tape (w.at d).drawn;have hbc:bc= #[]:=by
    have hch':q.v.heap[c]? =some (.chan K #[] false ca cb false):=hch;rw[hvc] at hch';simp only[Option.some.injEq,Obj.chan.injEq] at hch';exact hch'.2.1
   have hlen:rcvd=L.length:=zcY (by rw[<-hcore.tc,hbc]) hcore.le
   subst hlen;obtain⟨ρ₁,fr₁',l₁',w₂,es',cc',hs1,hcc,mv,hsr,hev⟩:=zaE (c:=c) (z:=z) (ok:=ok) hPc hcore.lkc (by rw[e1];exact hmode) hx true
   have hbuf:buf= #[]:=by
    apply Array.toList_inj.1;rw[hbl];simp
   subst hbuf;have hc2:w₂.heap[c]? =some (.chan cap #[] true L.length L.length false):=mv.chan' c _ hcore.wc rfl;have hch2:cc'.chan= .chan (some c):=by
    have:=hcc.chan
    generalize cc'.chan=y at this;cases this with
    |chan hh=>
     cases hh with
     |some hh=>
      have:=(hcore.lkc.tape (w.at d).tape (w.at d).drawn (w.at d).tape (w.at d).drawn).moved mv hsr
      have:=(this.one.inj _ _ _ _ (mv.ext _ _ hcore.sc) hh).1 rfl
      rw[<-this]
   have hsend:cc'.send=none:=by
    have:=hcc.send
    generalize cc'.send=y at this;cases this;rfl
   rw[comm_eta_r hch2 hsend] at hs1;have hrun:=crowd_recv_closed (P:=P) (gs:=gs) (w:=w.at d) (sl:=sl') (i:=0) h0 (show stepG P (0==0) _ (w.at d)=_ from hs1) hc2 (uM hd 0 c true);obtain⟨Op,pc,hOp,hduo⟩:=hd.duo
   have hcore2:=hcore.c_moved (T:=(w.at d).tape) (d:=(w.at d).drawn) mv hsr;obtain⟨t1,t2,t3⟩:=touch_ev (g:=0) (fn:=(Go.Conc.G q.fr' q.l').frame.fn) (pos:=(Go.Conc.G q.fr' q.l').frame.place) (fun e he=>hev e he) hcore.chan
   have hduo2:=DuoC.cons (Oc':=fun b=>(∃x,ρ₁ x b)/\b≠c) hduo (fun b k1 k2=>by
    obtain⟨x,hx⟩:=(hOp b k1).1
    obtain⟨y,hy⟩:=k2.1
    exact k2.2 (hcore2.disj x y b hx hy)) (fun k=>(hOp c k).2 rfl) t1 (fun op hop=>t2 op hop) t3
   obtain⟨B,hpast⟩:=hduo2.over0 (y:={g:=0,fn:=(Go.Conc.G fr₁' l₁').frame.fn,pos:=(Go.Conc.G fr₁' l₁').frame.place,act:= .recvClosed c}) rfl rfl
   rw[Array.append_assoc] at hpast;have hu:∀op∈MemOp.ofEvents 0 (Go.Conc.G q.fr' q.l').frame.fn (Go.Conc.G q.fr' q.l').frame.place es'++ #[({g:=0,fn:=(Go.Conc.G fr₁' l₁').frame.fn,pos:=(Go.Conc.G fr₁' l₁').frame.place,act:= .recvClosed c}:MemOp)],op.g=0:=by
    intro op hop;rcases Array.mem_append.1 hop with k|k
    ·exact t1 op k
    ·simp only[List.mem_toArray,List.mem_singleton] at k;rw[k]
   refine Reach.step (hst.trans hrun) (Reach.here (hFin p ⟨ρ₁,q.fr,q.l,fr₁',l₁',re q.v (w.at d).tape (w.at d).drawn⟩ _ _ _ _ m bp bc #[] ok z cc'.zero B ⟨hcore2,?_,hcc.zero,⟨hend _ _,fun T d=>hcomm T d⟩,qB hd.others hu,xq (lt_of_get h0) hd.above hu,hpast,hd.vars⟩));rw[Array.getElem?_setIfInBounds_self_of_lt (lt_of_get h0),finishComm_recv];rfl
  ·obtain⟨g',v',hstep,hrun',hk⟩:=hkid (w.at d).tape (w.at d).drawn
   obtain⟨Op,pc,hOp,hduo⟩:=hd.duo
   have hduoC:∀{ρ₁:Rn} {es':Array Event} {fn:FuncId} {pos:String},(∀e∈es',EvR ρ₁ (w.at d) e)->(∀x x' y,p.ρ x y->ρ₁ x' y->y=c)->DuoC n c Op (fun b=>(∃x,ρ₁ x b)/\b≠c) pc (t++MemOp.ofEvents 0 fn pos es'):=by
    intro ρ₁ es' fn pos hev hdis;obtain⟨t1,t2,t3⟩:=touch_ev (g:=0) (fn:=fn) (pos:=pos) hev hcore.chan
    exact DuoC.cons hduo (fun b k1 k2=>by
     obtain⟨x,hx⟩:=(hOp b k1).1
     obtain⟨y,hy⟩:=k2.1
     exact k2.2 (hdis x y b hx hy)) (fun k=>(hOp c k).2 rfl) t1 (fun op hop=>t2 op hop) t3
   rcases node_step hPc (noRec_normal _) (noRec_normal _) hcore.lkc hgo hstep true with⟨ρ₁,fr₁,l₁,fr₁',l₁',w₂,es',e1,e2,mv,hsr,hev⟩|⟨ρ₁,fr₁,l₁,fr₁',l₁',v₂,w₂,es,es',cc,cc',s,e1,e2,hcc,hD,hsh,mv,hsr,hev⟩
   ·have hrun:=runT_crowd_go (P:=P) (gs:=gs) (w:=w.at d) (sl:=sl') (i:=0) h0 (show stepG P (0==0) _ (w.at d)=_ from e1);rw[jj (zeo hd w₂)] at hrun;have hcore2:=hcore.c_moved (T:=(w.at d).tape) (d:=(w.at d).drawn) mv hsr;have t1:∀op∈MemOp.ofEvents 0 (Go.Conc.G q.fr' q.l').frame.fn (Go.Conc.G q.fr' q.l').frame.place es',op.g=0:=fun op hop=>by obtain⟨e,_,rfl⟩:=Go.Conc.mem_ofEvents hop;rfl
    refine Reach.step (hst.trans hrun) (hk p ⟨ρ₁,fr₁,l₁,fr₁',l₁',v'⟩ _ _ _ _ m rcvd bp bc buf e2 rfl ⟨hcore2,⟨Op,pc,hOp,hduoC hev hcore2.disj⟩,⟨none,?_⟩,qB hd.others t1,xq (lt_of_get h0) hd.above t1,hd.vars⟩);rw[Array.getElem?_setIfInBounds_self_of_lt (lt_of_get h0)];rfl
   ·obtain⟨q1,q2⟩:=chan_of hcc e2 hstep hrun' (xE mv only)
    have hnone:cc.send=none:=by
     cases hx:cc.send with
     |none=>rfl
     |some x=>rw[hx] at hD;cases hD
    have hnone':cc'.send=none:=by
     have:=hcc.send
     rw[hnone] at this;generalize cc'.send=y at this;cases this;rfl
    obtain⟨ok,rfl⟩:∃ok,s= .recv ok:=by
     cases s with
     |recv ok=>exact⟨ok,rfl⟩
     |send=>have:=hsh cc (by simp);rw[hnone] at this;cases this
     |select=>exact hsh.elim
    rw[comm_eta_r q1 hnone] at e2;rw[comm_eta_r q2 hnone'] at e1;have hvc2:v₂.heap[c]? =some (.chan K bc false va vb false):=mv.chan c _ hvc rfl;have hbb:buf=bc:=Array.toList_inj.1 (hbl.trans hcore.tc.symm);subst hbb;by_cases hne:0<buf.size
    ·obtain⟨rfl,rfl⟩:=gz e2 hvc2 hne hstep
     obtain⟨r1,r2,r3⟩:=recv_tail hbl hne
     have hplain:=hL _ (List.mem_of_getElem? r3);generalize hval:buf.getD 0 undef=x at*;have hc2:w₂.heap[c]? =some (.chan cap buf true L.length rcvd false):=mv.chan' c _ hcore.wc rfl;have hrun:=crowd_recv_buf (P:=P) (gs:=gs) (w:=w.at d) (sl:=sl') (i:=0) h0 (show stepG P (0==0) _ (w.at d)=_ from e1) hc2 hne (uM hd 0 c true);rw[hval] at hrun;have hcore2:=hcore.c_moved (T:=(w.at d).tape) (d:=(w.at d).drawn) mv hsr;have hvx:∀F ρ,VRel F ρ (recvd ok x true) (recvd ok x true):=by
      intro F ρ;unfold recvd;split
      ·exact .tuples ((VsRel.empty.push (hplain.gr F ρ)).push (.bool _))
      ·exact hplain.gr F ρ
     have hcore3:=hcore2.turn hcore2.lkp.st (hsr.swap (fun _ _ h=>h.finish (hvx _ _)) (kind_finish _ _) (kind_finish _ _)) (sent':=L.length) (rcvd':=rcvd+1) (mp':=L.length) (mc':=rcvd+1) (x:=va) (y:=vb+1) (bp':=bp) (bc':=buf.extract 1 buf.size) (buf':=buf.extract 1 buf.size) (closed':=true)
      hcore2.tp r1 (by rw[r1,List.take_of_length_le (by simp)]) r2
     have hst2:∀op∈(#[{g:=0,fn:=(Go.Conc.G fr₁' l₁').frame.fn,pos:=(Go.Conc.G fr₁' l₁').frame.place,act:= .recv c rcvd cap},{g:=0,fn:=(Go.Conc.G fr₁' l₁').frame.fn,pos:=(Go.Conc.G fr₁' l₁').frame.place,act:= .recvDone c rcvd}]:Array MemOp),op.g=0/\Still op:=by
      intro op hop;simp only[List.mem_toArray,List.mem_cons,List.not_mem_nil,or_false] at hop;rcases hop with rfl|rfl<;>exact⟨rfl,by simp[Still,MemAct.touch?]⟩
     have t1:∀op∈MemOp.ofEvents 0 (Go.Conc.G q.fr' q.l').frame.fn (Go.Conc.G q.fr' q.l').frame.place es'++ #[({g:=0,fn:=(Go.Conc.G fr₁' l₁').frame.fn,pos:=(Go.Conc.G fr₁' l₁').frame.place,act:= .recv c rcvd cap}:MemOp),{g:=0,fn:=(Go.Conc.G fr₁' l₁').frame.fn,pos:=(Go.Conc.G fr₁' l₁').frame.place,act:= .recvDone c rcvd}],op.g=0:=by
      intro op hop;rcases Array.mem_append.1 hop with k|k
      ·obtain⟨e,_,rfl⟩:=Go.Conc.mem_ofEvents k;rfl
      ·exact(hst2 op k).1
     refine Reach.step (hst.trans hrun) (hk _ _ _ _ _ _ m (rcvd+1) bp (buf.extract 1 buf.size) (buf.extract 1 buf.size) rfl rfl ⟨hcore3,⟨Op,pc,hOp,?_⟩,⟨none,?_⟩,qB hd.others t1,xq (lt_of_get h0) hd.above t1,fun y hy hyc=>(hd.vars y hy hyc).imp fun o h=>⟨(put_ne (Ne.symm hyc)).trans h.1,h.2⟩⟩)
     ·have:=(hduoC (fn:=(Go.Conc.G q.fr' q.l').frame.fn) (pos:=(Go.Conc.G q.fr' q.l').frame.place) hev hcore2.disj).still fun op hop=>(hst2 op hop).2
      rw[Array.append_assoc] at this;exact this
     ·rw[Array.getElem?_setIfInBounds_self_of_lt (lt_of_get h0),finishComm_recv];rfl
    ·exfalso;have hbe:buf= #[]:=Array.eq_empty_of_size_eq_zero (by omega)
     subst hbe;have:=jS e2 hvc2 hstep
     rw[hrun'] at this;cases this
 ·obtain⟨g',kk,ops,hmk,hrun,u1,u2,u3⟩:=ke (P:=P) (w:=w.at d) (sl:=sl') hi hg hi0 (hd.others i g hi0 hi) (zeo hd _)
  obtain⟨Op,pc,hOp,hduo⟩:=hd.duo
  have hlt:=lt_of_get hi;refine Reach.step (hst.trans hrun) (hinner _ _ (upd m i kk) sl' d ⟨hcore,⟨Op,pc,hOp,hduo.mute hi0 u1 u2⟩,⟨o,?_⟩,fun j x hj hx=>?_,xq hlt hd.above u1,hd.vars⟩ ?_)
  ·rw[Array.getElem?_setIfInBounds_ne hi0];exact h0
  ·rcases set_get hx with⟨rfl,rfl⟩|⟨hji,hx⟩
   ·rw[upd_same];exact u3 t rfl
   ·rw[upd_ne m kk hji,Deaf_other t (g':=i) (Ne.symm hji) ops u1];exact hd.others j x hj hx
  ·have e:sumTo gs.size (upd m i kk)+(kk+1)=sumTo gs.size m+kk:=by
    have:=sumTo_upd m kk id hlt
    simpa [hmk] using this
   rw[Array.size_setIfInBounds];omega
theorem ziF(hPc:SimP P Fc Gc (fun b=>b=false))(hL:∀x∈L,PlainV x)(hS:yG Xc)(hX:∀g v,Xc g v->jk P f c K g v){Fin:Array Goroutine->World->Option (Nat×Nat)->Trace->Prop}
 (hFin:∀p q gs w sl t m bp bc buf ok z z' B,DoneP P Fp Fc Gp Gc f c cap K L closeD child l0 w0 Gb Xc p q gs w t m bp bc buf ok z z' B->Fin gs w sl t):
 ∀(g:Goroutine) (v:World),Must P Xc g v->∀(M:Nat) (p q:Nd) (gs:Array Goroutine) (w:World) (sl:Option (Nat×Nat)) (t:Trace) (m:Nat->Nat) (rcvd:Nat) (bp bc buf:Array Value),g=Go.Conc.G q.fr q.l->v=q.v->sumTo gs.size m<=M->
  PhB P Fp Fc Gp Gc f n c cap K L closeD child l0 w0 Gb p q gs w t m rcvd bp bc buf->Reach P Fin gs w sl t:=by
 have hXr:∀g v,Xc g v->g.callers≠[]:=fun g v h=>by obtain⟨fr,z,ok,rfl,_⟩:=hX g v h;simp[Go.Conc.G]
 intro g v hM;induction hM with
 | @stop g v hstop=>
   intro M;induction M with
   |zero=>
    intro p q gs w sl t m rcvd bp bc buf eg ev hm h;subst eg;subst ev
    exact roundB hPc hL hS hX hFin h (.inl hstop) fun gs' t' m' sl' d _ hlt=>absurd hlt (by omega)
   |succ M ih=>
    intro p q gs w sl t m rcvd bp bc buf eg ev hm h;subst eg;subst ev
    exact roundB hPc hL hS hX hFin h (.inl hstop) fun gs' t' m' sl' d h' hlt=>ih p q gs' (w.at d) sl' t' m' rcvd bp bc buf rfl rfl (by omega) h'
 | @step g v hr ht g' v' h1 h2 h3 ihO=>
   have node:∀(q:Nd) (p:Nd) (gs:Array Goroutine) (w:World) (t:Trace) (m:Nat->Nat) (rcvd:Nat) (bp bc buf:Array Value),g=Go.Conc.G q.fr q.l->v=q.v->PhB P Fp Fc Gp Gc f n c cap K L closeD child l0 w0 Gb p q gs w t m rcvd bp bc buf->
    (∀T d,Xc (Go.Conc.G q.fr q.l) (re q.v T d))\/(Goes1 [] [bottom f c] q.fr q.l/\∀T d,∃g' v',step P (solo (Go.Conc.G q.fr q.l) (re q.v T d))= .next (solo g' v')/\g'.status= .running/\
     ∀(p q:Nd) (gs:Array Goroutine) (w:World) (sl:Option (Nat×Nat)) (t:Trace) (m:Nat->Nat) (rcvd:Nat) (bp bc buf:Array Value),g'=Go.Conc.G q.fr q.l->v'=q.v->PhB P Fp Fc Gp Gc f n c cap K L closeD child l0 w0 Gb p q gs w t m rcvd bp bc buf->Reach P Fin gs w sl t):=by
    intro q p gs w t m rcvd bp bc buf eg ev h;subst eg;subst ev
    obtain⟨a,b,hvc⟩:=h.core.vcc
    rcases goes_or_end hPc h.core.lkc.st ⟨_,hvc,rfl⟩ hXr (.step hr ht g' v' h1 h2 h3) with hgo|hend
    ·exact .inr ⟨hgo,fun T d=>⟨g' T d,v' T d,h2 T d,h1 T d,fun p q gs w sl t m rcvd bp bc buf e1 e2 h=>ihO T d _ p q gs w sl t m rcvd bp bc buf e1 e2 (Nat.le_refl _) h⟩⟩
    ·exact .inl hend
   intro M;induction M with
   |zero=>
    intro p q gs w sl t m rcvd bp bc buf eg ev hm h;exact roundB hPc hL hS hX hFin h (node q p gs w t m rcvd bp bc buf eg ev h) fun gs' t' m' sl' d _ hlt=>absurd hlt (by omega)
   |succ M ih=>
    intro p q gs w sl t m rcvd bp bc buf eg ev hm h;exact roundB hPc hL hS hX hFin h (node q p gs w t m rcvd bp bc buf eg ev h) fun gs' t' m' sl' d h' hlt=>ih p q gs' (w.at d) sl' t' m' rcvd bp bc buf eg ev (by omega) h'
end
open Go.Conc
open Go.ConcN (sumTo upd sumTo_upd upd_ne upd_same)
def Pre(P:Program):Nat->Goroutine->Goroutine->Prop
 |0,y,x=>y=x
 |j+1,y,x=>y.status= .running/\∃y',(∀w,stepG P false y w= .go y' w #[])/\Pre P j y' x
theorem Pre.status{P:Program}:∀{j:Nat} {y x:Goroutine},Pre P j y x->x.status= .running->y.status= .running
 |0,_,_,h,hx=>by rw[show _=_ from h];exact hx
 |_+1,_,_,h,_=>h.1
structure PhA (P:Program) (Fp Fc:FuncId->Prop) (Gp Gc:Nat->Prop) (f:FuncId) (n c cap K:Nat) (L:List Value) (closeD:Deferred) (child:Frame) (l0:List Frame) (w0:World) (Gb:Nat->Prop)
 (p q:Nd) (gs:Array Goroutine) (w:World) (t:Trace) (m:Nat->Nat) (sent rcvd mp mc:Nat) (bp bc buf:Array Value) (pb cb:Nat):Prop where
 core:Core P Fp Fc Gp Gc f c cap K L closeD child l0 w0 Gb p q w sent rcvd mp mc bp bc buf false
 duo:Duo n c (fun b=>(∃x,p.ρ x b)/\b≠c) (fun b=>(∃x,q.ρ x b)/\b≠c) t
 n0:n≠0
 cap0:0<cap
 sentL:sent<=L.length
 ps:(∃y j,gs[n]? =some y/\Pre P j y (Go.Conc.G p.fr' p.l')/\mp=sent/\pb=1+j)\/∃x z a',gs[n]? =some (parked (Go.Conc.G a' p.l') #[scase c x z] .send)/\p.fr'=a'.finish undef/\mp=sent+1/\L[sent]? =some x/\cap<=buf.size/\pb=0
 cst:(gs[0]? =some (Go.Conc.G q.fr' q.l')/\mc=rcvd/\cb=1)\/(∃x z ok b',gs[0]? =some (parked (Go.Conc.G b' q.l') #[rcase c z] (.recv ok))/\q.fr'=b'.finish (recvd ok x true)/\mc=rcvd+1/\L[rcvd]? =some x/\buf= #[]/\cb=0)\/
  ∃z ok,gs[0]? =some (parked (Go.Conc.G q.fr' q.l') #[rcase c z] (.recv ok))/\mc=rcvd/\rcvd=L.length/\cb=0
 others:∀(j:Nat) (x:Goroutine),j≠0->j≠n->gs[j]? =some x->QuitsD P (m j) (Deaf t j) x
 above:∀j:Nat,gs.size<=j->Deaf t j=0
section
variable {P:Program} {Fp Fc:FuncId->Prop} {Gp Gc:Nat->Prop} {f:FuncId} {n c cap K:Nat} {L:List Value} {closeD:Deferred} {child:Frame} {l0:List Frame} {w0:World} {Gb:Nat->Prop} {p q:Nd} {gs:Array Goroutine} {w:World} {sl:Option (Nat×Nat)} {t:Trace} {m:Nat->Nat} {sent rcvd mp mc pb cb:Nat} {bp bc buf:Array Value}
theorem Core.c_tape{closed:Bool}{ρ:Rn}{fr fr':Frame}{l l':List Frame}{v:World}{T:Nat->Question->Nat}{d:Nat}(h:Core P Fp Fc Gp Gc f c cap K L closeD child l0 w0 Gb p ⟨ρ,fr,l,fr',l',re v T d⟩ w sent rcvd mp mc bp bc buf closed):Core P Fp Fc Gp Gc f c cap K L closeD child l0 w0 Gb p ⟨ρ,fr,l,fr',l',v⟩ w sent rcvd mp mc bp bc buf closed:=
 ⟨h.lkp,⟨h.lkc.st,h.lkc.one,h.lkc.rel,h.lkc.os,h.lkc.sz,h.lkc.sz',h.lkc.glob⟩,h.vpc,h.vcc,h.tp,h.tc,h.wc,h.tb,h.le,h.room,h.sp,h.sc,h.disj,h.oldp,h.oldc,h.keep,h.grow,h.os,h.out,h.onlyp,h.onlyc,h.idp⟩
theorem wg(h:PhA P Fp Fc Gp Gc f n c cap K L closeD child l0 w0 Gb p q gs w t m sent rcvd mp mc bp bc buf pb cb){w':World}{b:Array Value}{s r:Nat}(hc:w'.heap[c]? =some (.chan cap b false s r false)):Calm w' gs:=by
 intro j x hx;by_cases hj:j=0
 ·subst hj;rcases h.cst with⟨e,_⟩|⟨v,z,ok,b',e,_⟩|⟨z,ok,e,_⟩
  ·rw[e] at hx;cases hx;exact again_running w' (.inl rfl)
  ·rw[e] at hx;cases hx;exact again_recv_open hc
  ·rw[e] at hx;cases hx;exact again_recv_open hc
 ·by_cases hjn:j=n
  ·subst hjn;rcases h.ps with⟨y,j,e,hy,_⟩|⟨v,z,a',e,_⟩
   ·rw[e] at hx;cases hx;exact again_running w' (.inl (hy.status rfl))
   ·rw[e] at hx;cases hx;exact again_send_open hc
  ·exact again_running w' (h.others j x hj hjn hx).status
theorem awake_A(h:PhA P Fp Fc Gp Gc f n c cap K L closeD child l0 w0 Gb p q gs w t m sent rcvd mp mc bp bc buf pb cb):∀g∈gs,awake g:=by
 intro g hg;obtain⟨j,hj,rfl⟩:=Array.mem_iff_getElem.1 hg
 have hx:=Array.getElem?_eq_getElem hj;generalize gs[j]=x at hx;by_cases hj0:j=0
 ·subst hj0;rcases h.cst with⟨e,_⟩|⟨v,z,ok,b',e,_⟩|⟨z,ok,e,_⟩<;>(rw[e] at hx;cases hx;intro t;simp[parked,Go.Conc.G])
 ·by_cases hjn:j=n
  ·subst hjn;rcases h.ps with⟨y,j,e,hy,_⟩|⟨v,z,a',e,_⟩
   ·rw[e] at hx;cases hx;exact awake_of (.inl (hy.status rfl))
   ·rw[e] at hx;cases hx;intro t;simp[parked,Go.Conc.G]
  ·exact awake_of ((h.others j x hj0 hjn hx).status.elim .inl fun x=> .inr (.inr x))
theorem quiet_A(h:PhA P Fp Fc Gp Gc f n c cap K L closeD child l0 w0 Gb p q gs w t m sent rcvd mp mc bp bc buf pb cb){j:Nat}{x:Goroutine}(hj:j≠0)(hjn:j≠n)(hx:gs[j]? =some x)(r:Nat)(b:Bool):offersAt x r b=[]:=
 offersAt_of_not_blocked (by rcases(h.others j x hj hjn hx).status with e|e<;>rw[e]<;>simp) r b
theorem partners_c_none(h:PhA P Fp Fc Gp Gc f n c cap K L closeD child l0 w0 Gb p q gs w t m sent rcvd mp mc bp bc buf pb cb){y:Goroutine}{j:Nat}(hr:gs[n]? =some y)(hy:Pre P j y (Go.Conc.G p.fr' p.l'))(b:Bool):partners (gs.setIfInBounds 0 ph) c b=[]:=by
 refine partners_nil fun j x hx=>?_;rcases set_get hx with⟨_,rfl⟩|⟨hj,hx⟩
 ·exact offersAt_ph c b
 ·by_cases hjn:j=n
  ·subst hjn;rw[hr] at hx;cases hx
   exact offersAt_of_not_blocked (by rw[hy.status rfl];simp) c b
  ·exact quiet_A h hj hjn hx c b
theorem partners_c_one(h:PhA P Fp Fc Gp Gc f n c cap K L closeD child l0 w0 Gb p q gs w t m sent rcvd mp mc bp bc buf pb cb){g:Goroutine}{x z:Value}{sh:CommShape}(hr:gs[n]? =some (parked g #[scase c x z] sh)):partners (gs.setIfInBounds 0 ph) c true=[(n,0)]:=by
 have e:=partners_one (gs:=gs.setIfInBounds 0 ph) (r:=c) (send:=true) (j:=n) (g:=parked g #[scase c x z] sh) (by rw[Array.getElem?_setIfInBounds_ne (Ne.symm h.n0)];exact hr) (fun k y hk hy=>by
  rcases set_get hy with⟨_,rfl⟩|⟨hj,hy⟩
  ·exact offersAt_ph c true
  ·exact quiet_A h hj hk hy c true)
 rw[e,offersAt_parked_send,if_pos rfl];rfl
theorem partners_p_none(h:PhA P Fp Fc Gp Gc f n c cap K L closeD child l0 w0 Gb p q gs w t m sent rcvd mp mc bp bc buf pb cb)(hr:gs[0]? =some (Go.Conc.G q.fr' q.l'))(b:Bool):partners (gs.setIfInBounds n ph) c b=[]:=by
 refine partners_nil fun j x hx=>?_;rcases set_get hx with⟨_,rfl⟩|⟨hjn,hx⟩
 ·exact offersAt_ph c b
 ·by_cases hj:j=0
  ·subst hj;rw[hr] at hx;cases hx
   exact offersAt_of_not_blocked (by simp[Go.Conc.G]) c b
  ·exact quiet_A h hj hjn hx c b
theorem partners_p_one(h:PhA P Fp Fc Gp Gc f n c cap K L closeD child l0 w0 Gb p q gs w t m sent rcvd mp mc bp bc buf pb cb){g:Goroutine}{z:Value}{sh:CommShape}(hr:gs[0]? =some (parked g #[rcase c z] sh)):partners (gs.setIfInBounds n ph) c false=[(0,0)]:=by
 have e:=partners_one (gs:=gs.setIfInBounds n ph) (r:=c) (send:=false) (j:=0) (g:=parked g #[rcase c z] sh) (by rw[Array.getElem?_setIfInBounds_ne h.n0];exact hr) (fun k y hk hy=>by
  rcases set_get hy with⟨_,rfl⟩|⟨hj,hy⟩
  ·exact offersAt_ph c false
  ·exact quiet_A h hk hj hy c false)
 rw[e,offersAt_parked_recv,if_pos rfl];rfl
theorem othersA_own{g0 g1:Goroutine}{u:Trace}(h:∀(j:Nat) (x:Goroutine),j≠0->j≠n->gs[j]? =some x->QuitsD P (m j) (Deaf t j) x)(hu:∀op∈u,op.g=0\/op.g=n){i k:Nat}(hi:i=0\/i=n)(hk:k=0\/k=n):∀(j:Nat) (x:Goroutine),j≠0->j≠n->((gs.setIfInBounds i g0).setIfInBounds k g1)[j]? =some x->QuitsD P (m j) (Deaf (t++u) j) x:=by
 intro j x hj hjn hx;have e:Deaf (t++u) j=Deaf t j:=by
  have:∀(l:List MemOp) (d:Nat),(∀op∈l,op.g≠j)->l.foldl (deafStep j) d=d:=by
   intro l;induction l with
   |nil=>intros;rfl
   |cons y l ih=>
    intro d hl;have h1:=hl y (List.mem_cons_self ..);rw[List.foldl_cons];have e1:deafStep j d y=d:=by
     unfold deafStep
     split<;>first|rw[if_neg h1]|rfl
    rw[e1];exact ih d fun op hop=>hl op (List.mem_cons_of_mem _ hop)
  have e2:t++u=t++u.toList.toArray:=by simp
  rw[e2,Deaf_append];exact this _ _ fun op hop=>by
   rcases hu op (Array.mem_toList_iff.1 hop) with k|k<;>rw[k]
   ·exact Ne.symm hj
   ·exact Ne.symm hjn
 rw[e];have hne:∀{i:Nat},(i=0\/i=n)->i≠j:=by
  rintro i (rfl|rfl)
  ·exact Ne.symm hj
  ·exact Ne.symm hjn
 rw[Array.getElem?_setIfInBounds_ne (hne hk),Array.getElem?_setIfInBounds_ne (hne hi)] at hx;exact h j x hj hjn hx
theorem aboveA_own{g0 g1:Goroutine}{u:Trace}(h0:0<gs.size)(hn:n<gs.size)(h:∀j:Nat,gs.size<=j->Deaf t j=0)(hu:∀op∈u,op.g=0\/op.g=n){i k:Nat}:∀j:Nat,((gs.setIfInBounds i g0).setIfInBounds k g1).size<=j->Deaf (t++u) j=0:=by
 intro j hj;have hj':gs.size<=j:=by simpa using hj
 have:∀(l:List MemOp) (d:Nat),(∀op∈l,op.g≠j)->l.foldl (deafStep j) d=d:=by
  intro l;induction l with
  |nil=>intros;rfl
  |cons y l ih=>
   intro d hl;have h1:=hl y (List.mem_cons_self ..);rw[List.foldl_cons];have e1:deafStep j d y=d:=by
    unfold deafStep
    split<;>first|rw[if_neg h1]|rfl
   rw[e1];exact ih d fun op hop=>hl op (List.mem_cons_of_mem _ hop)
 have e2:t++u=t++u.toList.toArray:=by simp
 rw[e2,Deaf_append,this _ _ fun op hop=>by
  rcases hu op (Array.mem_toList_iff.1 hop) with k|k<;>rw[k]<;>omega]
 exact h j hj'
variable {Xc Xp:Goroutine->World->Prop} {Fin:Array Goroutine->World->Option (Nat×Nat)->Trace->Prop}
theorem qP{g0:Goroutine}{u:Trace}(h:∀(j:Nat) (x:Goroutine),j≠0->j≠n->gs[j]? =some x->QuitsD P (m j) (Deaf t j) x)(hu:∀op∈u,op.g=0\/op.g=n){i:Nat}(hi:i=0\/i=n):∀(j:Nat) (x:Goroutine),j≠0->j≠n->(gs.setIfInBounds i g0)[j]? =some x->QuitsD P (m j) (Deaf (t++u) j) x:=by
 have:=othersA_own (g0:=g0) (g1:=g0) h hu hi hi
 simpa using this
theorem jO{g0:Goroutine}{u:Trace}(h0:0<gs.size)(hn:n<gs.size)(h:∀j:Nat,gs.size<=j->Deaf t j=0)(hu:∀op∈u,op.g=0\/op.g=n){i:Nat}:∀j:Nat,(gs.setIfInBounds i g0).size<=j->Deaf (t++u) j=0:=by
 have:=aboveA_own (g0:=g0) (g1:=g0) (i:=i) (k:=i) h0 hn h hu
 simpa using this
theorem PhA.n_lt(h:PhA P Fp Fc Gp Gc f n c cap K L closeD child l0 w0 Gb p q gs w t m sent rcvd mp mc bp bc buf pb cb):n<gs.size:=by
 rcases h.ps with⟨y,j,e,_⟩|⟨v,z,a',e,_⟩<;>exact lt_of_get e
theorem PhA.z_lt(h:PhA P Fp Fc Gp Gc f n c cap K L closeD child l0 w0 Gb p q gs w t m sent rcvd mp mc bp bc buf pb cb):0<gs.size:=by
 rcases h.cst with⟨e,_⟩|⟨v,z,ok,b',e,_⟩|⟨z,ok,e,_⟩<;>exact lt_of_get e
section
variable (P Fp Fc Gp Gc f n c cap K L closeD child l0 w0 Gb Xc Fin)
def NextP(g':Goroutine)(v':World):Prop:=∀(p q:Nd) (gs:Array Goroutine) (w:World) (sl:Option (Nat×Nat)) (t:Trace) (m:Nat->Nat) (sent rcvd mp mc:Nat) (bp bc buf:Array Value) (pb cb:Nat),g'=Go.Conc.G p.fr p.l->v'=p.v->Must P Xc (Go.Conc.G q.fr q.l) q.v->
 PhA P Fp Fc Gp Gc f n c cap K L closeD child l0 w0 Gb p q gs w t m sent rcvd mp mc bp bc buf pb cb->Reach P Fin gs w sl t
def zdm(p0:Nd)(g':Goroutine)(v':World):Prop:=∀(p q:Nd) (gs:Array Goroutine) (w:World) (sl:Option (Nat×Nat)) (t:Trace) (m:Nat->Nat) (sent rcvd mp mc:Nat) (bp bc buf:Array Value) (pb cb:Nat),p.fr=p0.fr->p.l=p0.l->p.v=p0.v->g'=Go.Conc.G q.fr q.l->v'=q.v->
 PhA P Fp Fc Gp Gc f n c cap K L closeD child l0 w0 Gb p q gs w t m sent rcvd mp mc bp bc buf pb cb->Reach P Fin gs w sl t
def zg9(p0 q0:Nd)(μ:Nat):Prop:=∀(p q:Nd) (gs:Array Goroutine) (w:World) (sl:Option (Nat×Nat)) (t:Trace) (m:Nat->Nat) (sent rcvd mp mc:Nat) (bp bc buf:Array Value) (pb cb:Nat),p.fr=p0.fr->p.l=p0.l->p.v=p0.v->q.fr=q0.fr->q.l=q0.l->q.v=q0.v->
 PhA P Fp Fc Gp Gc f n c cap K L closeD child l0 w0 Gb p q gs w t m sent rcvd mp mc bp bc buf pb cb->pb+cb+sumTo gs.size m<μ->Reach P Fin gs w sl t
end
theorem own_ops{g:Nat}{fn:FuncId}{pos:String}{es:Array Event}:∀op∈MemOp.ofEvents g fn pos es,op.g=g:=fun op hop=>by obtain⟨e,_,rfl⟩:=Go.Conc.mem_ofEvents hop;rfl
theorem zbh{x:Value}(h:PlainV x)(ok:Bool)(F:FuncId->Prop)(ρ:Rn):VRel F ρ (recvd ok x true) (recvd ok x true):=by
 unfold recvd;split
 ·exact .tuples ((VsRel.empty.push (h.gr F ρ)).push (.bool _))
 ·exact h.gr F ρ
theorem duo_c(h:PhA P Fp Fc Gp Gc f n c cap K L closeD child l0 w0 Gb p q gs w t m sent rcvd mp mc bp bc buf pb cb){ρ₁:Rn}{es':Array Event}{fn:FuncId}{pos:String}(he:Ext q.ρ ρ₁)(hev:∀e∈es',EvR ρ₁ w e)(hd:∀x x' y,p.ρ x y->ρ₁ x' y->y=c):
 Duo n c (fun b=>(∃x,p.ρ x b)/\b≠c) (fun b=>(∃x,ρ₁ x b)/\b≠c) (t++MemOp.ofEvents 0 fn pos es'):=by
 obtain⟨t1,t2,t3⟩:=touch_ev (g:=0) (fn:=fn) (pos:=pos) hev h.core.chan
 exact h.duo.cons (fun b k=>⟨let ⟨x,hx⟩:=k.1;⟨x,he _ _ hx⟩,k.2⟩) (fun b k1 k2=>by
  obtain⟨x,hx⟩:=k1.1
  obtain⟨y,hy⟩:=k2.1
  exact k2.2 (hd x y b hx hy)) (fun k=>k.2 rfl) h.n0 t1 t2 t3
theorem duo_p(h:PhA P Fp Fc Gp Gc f n c cap K L closeD child l0 w0 Gb p q gs w t m sent rcvd mp mc bp bc buf pb cb){ρ₁:Rn}{es':Array Event}{fn:FuncId}{pos:String}(he:Ext p.ρ ρ₁)(hev:∀e∈es',EvR ρ₁ w e)(hd:∀x x' y,ρ₁ x y->q.ρ x' y->y=c):
 Duo n c (fun b=>(∃x,ρ₁ x b)/\b≠c) (fun b=>(∃x,q.ρ x b)/\b≠c) (t++MemOp.ofEvents n fn pos es'):=by
 obtain⟨t1,t2,t3⟩:=touch_ev (g:=n) (fn:=fn) (pos:=pos) hev h.core.chan
 exact h.duo.prod (fun b k=>⟨let ⟨x,hx⟩:=k.1;⟨x,he _ _ hx⟩,k.2⟩) (fun b k1 k2=>by
  obtain⟨x,hx⟩:=k1.1
  obtain⟨y,hy⟩:=k2.1
  exact k2.2 (hd x y b hx hy)) (fun k=>k.2 rfl) t1 t2 t3
theorem still2{t u v:Trace}{n c:Nat}{Op Oc:Nat->Prop}(h:Duo n c Op Oc (t++u))(hv:∀op∈v,Still op):Duo n c Op Oc (t++(u++v)):=by
 rw[<-Array.append_assoc];exact h.still hv
theorem yW{g:Goroutine}{i:Nat}(h:i<gs.size):(gs.setIfInBounds i g)[i]? =some g:=Array.getElem?_setIfInBounds_self_of_lt h
theorem yl{g:Goroutine}{i j:Nat}(h:i≠j):(gs.setIfInBounds i g)[j]? =gs[j]? :=Array.getElem?_setIfInBounds_ne h
end
end Go.Bsd
