/- A part. -/
import Derived.Test.YtonmcakdofbjiaaGreatDoorM5
import Derived.Laws.Sem
set_option linter.all false
set_option maxRecDepth 100000
set_option maxHeartbeats 8000000
namespace Go.Bsd
open Go.Conc
def yG(S:Goroutine->World->Prop):Prop:=∀g w T d,S g w->S g (re w T d)
def Lone(P:Program)(S:Goroutine->World->Prop)(g:Goroutine)(w:World):Prop:=
 ∀T d,∃n g' w',runN P n (solo g (re w T d))= .next (solo g' w')/\g'.status= .running/\S g' w'
inductive Must (P:Program) (S:Goroutine->World->Prop):Goroutine->World->Prop
 |stop {g:Goroutine} {w:World} (h:∀T d,S g (re w T d)):Must P S g w
 |step {g:Goroutine} {w:World} (hr:g.status= .running) (ht:zV g) (g':(Nat->Question->Nat)->Nat->Goroutine) (w':(Nat->Question->Nat)->Nat->World)
  (h1:∀T d,(g' T d).status= .running) (h2:∀T d,step P (solo g (re w T d))= .next (solo (g' T d) (w' T d))) (h3:∀T d,Must P S (g' T d) (w' T d)):Must P S g w
section
variable {P:Program} {S:Goroutine->World->Prop}
theorem ye{g g':Goroutine}{w w':World}(h:solo g w=solo g' w'):g=g'/\w=w':=by
 have h1:(solo g w).gs=(solo g' w').gs:=by rw[h]
 have h2:(solo g w).world=(solo g' w').world:=by rw[h]
 simp only[solo,Array.mk.injEq,List.cons.injEq,and_true] at h1;exact⟨h1,h2⟩
theorem jy(hP:TameProg P){g:Goroutine}{w:World}(ht:zV g)(hr:g.status= .running){n:Nat}{g₁:Goroutine}{w₁:World}(h:runN P (n+1) (solo g w)= .next (solo g₁ w₁))(hr₁:g₁.status= .running):
 ∃g' w' k,g'.status= .running/\zV g'/\w'.tape=w.tape/\w'.drawn=w.drawn+k/\step P (solo g w)= .next (solo g' w')/\(∀T d,zJ w k T d->step P (solo g (re w T d))= .next (solo g' (re w' T (d+k))))/\
  runN P n (solo g' w')= .next (solo g₁ w₁):=by
 simp only[runN] at h;rcases own_step hP ht hr w with⟨o,w',e⟩|⟨m,e,hm⟩|⟨g',w',e,hf⟩|⟨g',w',k,⟨hg,ha⟩,h1,h2,h3,h4,h5⟩
 ·rw[e] at h;cases h
 ·rw[e] at h;have:=zit n m (solo g₁ w₁) h
  rw[hm] at this;simp[solo] at this
 ·rw[e] at h;exact absurd h (runN_dead (by rw[hf];simp) (by intro t;rw[hf];simp) n g₁ w₁ hr₁)
 ·rw[h3] at h;by_cases hs:g'.status= .running
  ·exact⟨g',w',k,hs,hg,h1,h2,h3,h4,h⟩
  ·exact absurd h (runN_dead hs ha n g₁ w₁ hr₁)
theorem shift(hP:TameProg P):∀(n:Nat) {g:Goroutine} {w:World} {T T':Nat->Question->Nat} {a b:Nat} {g₁:Goroutine} {w₁:World},zV g->g.status= .running->(∀i q,T' (b+i) q=T (a+i) q)->
 runN P n (solo g (re w T a))= .next (solo g₁ w₁)->g₁.status= .running->∃b',runN P n (solo g (re w T' b))= .next (solo g₁ (re w₁ T' b')):=by
 intro n;induction n with
 |zero=>
  intro g w T T' a b g₁ w₁ ht hr hT h hr₁;simp only[runN,Stepped.next.injEq] at h;obtain⟨rfl,rfl⟩:=ye h
  exact⟨b,rfl⟩
 |succ n ih=>
  intro g w T T' a b g₁ w₁ ht hr hT h hr₁;obtain⟨g',w',k,hs,hg,h1,h2,h3,h4,h5⟩:=jy hP ht hr h hr₁
  have h6:=h4 T' b (fun i hi q=>hT i q);simp only[zjx,wL,uo] at h6 h1 h2;have ew:re w' T (a+k)=w':=by rw[<-h1,<-h2];exact zbU w'
  rw[<-ew] at h5;obtain⟨b',h7⟩:=ih (b:=b+k) hg hs (fun i q=>by rw[Nat.add_assoc,Nat.add_assoc];exact hT (k+i) q) h5 hr₁
  exact⟨b',by simp only[runN];rw[h6];exact h7⟩
theorem zd2(hP:TameProg P)(hS:yG S){g g':Goroutine}{w w':World}{k:Nat}(ht:zV g)(hr:g.status= .running)(hL:Lone P S g w)(hn:¬ ∀T d,S g (re w T d))
 (hg:zV g') (hs:g'.status= .running) (hw:w'.tape=w.tape) (h4:∀T d,zJ w k T d->step P (solo g (re w T d))= .next (solo g' (re w' T (d+k)))):Lone P S g' w':=by
 intro T' d';obtain⟨n,g₁,w₁,h1,h2,h3⟩:=hL (fun i q=>if i<k then w.tape (w.drawn+i) q else T' (d'+(i-k)) q) 0
 cases n with
 |zero=>
  exfalso;simp only[runN,Stepped.next.injEq] at h1;obtain⟨rfl,rfl⟩:=ye h1
  exact hn fun T d=>(hS _ _ T d h3:)
 |succ n=>
  have hf:=h4 (fun i q=>if i<k then w.tape (w.drawn+i) q else T' (d'+(i-k)) q) 0 (fun i hi q=>by simp[hi])
  simp only[runN] at h1;rw[hf] at h1;simp only[Nat.zero_add] at h1;obtain⟨b',h5⟩:=shift hP n (T':=T') (b:=d') hg hs (fun i q=>by rw[if_neg (by omega)];congr 2;omega) h1 h2
  exact⟨n,g₁,_,h5,h2,hS _ _ _ _ h3⟩
structure Bad (P:Program) (S:Goroutine->World->Prop) where
 g:Goroutine
 w:World
 tame:zV g
 run:g.status= .running
 lone:Lone P S g w
 bad:¬Must P S g w
theorem jM(hP:TameProg P)(hS:yG S)(x:Bad P S):∃(y:Bad P S) (U:Nat->Question->Nat) (d k:Nat),∀T d',zJ (re x.w U d) k T d'->step P (solo x.g (re x.w T d'))= .next (solo y.g (re y.w T (d'+k))):=by
 have hn:¬ ∀T d,S x.g (re x.w T d):=fun h=>x.bad (.stop h);have:¬ ∀T d,∃g' w',g'.status= .running/\step P (solo x.g (re x.w T d))= .next (solo g' w')/\Must P S g' w':=fun h=>x.bad (.step x.run x.tame (fun T d=>Classical.choose (h T d)) (fun T d=>Classical.choose (Classical.choose_spec (h T d))) (fun T d=>(Classical.choose_spec (Classical.choose_spec (h T d))).1) (fun T d=>(Classical.choose_spec (Classical.choose_spec (h T d))).2.1) (fun T d=>(Classical.choose_spec (Classical.choose_spec (h T d))).2.2))
 obtain⟨U,hU⟩:=Classical.not_forall.1 this
 obtain⟨d,hd⟩:=Classical.not_forall.1 hU
 obtain⟨n,g₁,w₁,h1,h2,h3⟩:=x.lone U d
 cases n with
 |zero=>
  exfalso;simp only[runN,Stepped.next.injEq] at h1;obtain⟨rfl,rfl⟩:=ye h1
  exact hn fun T d=>(hS _ _ T d h3:)
 |succ n=>
  obtain⟨g',w',k,hs,hg,e1,e2,e3,e4,e5⟩:=jy hP x.tame x.run h1 h2
  have e4':∀T d',zJ (re x.w U d) k T d'->step P (solo x.g (re x.w T d'))= .next (solo g' (re w' T (d'+k))):=fun T d' h=>e4 T d' h;refine⟨⟨g',w',hg,hs,zd2 hP hS (w:=re x.w U d) x.tame x.run (fun T d=>x.lone T d) (fun h=>hn fun T d=>h T d) hg hs e1 e4',fun hm=>hd ⟨g',w',hs,e3,hm⟩⟩,U,d,k,e4'⟩
section
variable (hP:TameProg P) (hS:yG S) (x₀:Bad P S)
noncomputable def wN(x:Bad P S):Bad P S:=Classical.choose (jM hP hS x)
noncomputable def zaa(x:Bad P S):Nat->Question->Nat:=Classical.choose (Classical.choose_spec (jM hP hS x))
noncomputable def wR(x:Bad P S):Nat:=Classical.choose (Classical.choose_spec (Classical.choose_spec (jM hP hS x)))
noncomputable def wP(x:Bad P S):Nat:=Classical.choose (Classical.choose_spec (Classical.choose_spec (Classical.choose_spec (jM hP hS x))))
theorem zgq(x:Bad P S):∀T d',zJ (re x.w (zaa hP hS x) (wR hP hS x)) (wP hP hS x) T d'->step P (solo x.g (re x.w T d'))= .next (solo (wN hP hS x).g (re (wN hP hS x).w T (d'+wP hP hS x))):=
 Classical.choose_spec (Classical.choose_spec (Classical.choose_spec (Classical.choose_spec (jM hP hS x))))
noncomputable def xx:Nat->Bad P S
 |0=>x₀
 |n+1=>wN hP hS (xx n)
noncomputable def xm:Nat->Nat
 |0=>0
 |n+1=>xm n+wP hP hS (xx hP hS x₀ n)
theorem up:∀(n k:Nat),xm hP hS x₀ n<=xm hP hS x₀ (n+k)
 |n,0=>Nat.le_refl _
 |n,k+1=>Nat.le_trans (up n k) (by show _<=xm hP hS x₀ (n+k)+_;omega)
def wC(i n:Nat):Prop:=xm hP hS x₀ n<=i/\i<xm hP hS x₀ (n+1)
theorem zef{i n m:Nat}(h:wC hP hS x₀ i n)(h':wC hP hS x₀ i m):n=m:=by
 rcases Nat.lt_trichotomy n m with e|e|e
 ·have:=up hP hS x₀ (n+1) (m-(n+1))
  rw[show n+1+(m-(n+1))=m by omega] at this
  have:=h.2;have:=h'.1;omega
 ·exact e
 ·have:=up hP hS x₀ (m+1) (n-(m+1))
  rw[show m+1+(n-(m+1))=n by omega] at this
  have:=h'.2;have:=h.1;omega
noncomputable def qu(i:Nat)(q:Question):Nat:=
 @dite _ (∃n,wC hP hS x₀ i n) (Classical.propDecidable _) (fun h=>zaa hP hS (xx hP hS x₀ (Classical.choose h)) (wR hP hS (xx hP hS x₀ (Classical.choose h))+(i-xm hP hS x₀ (Classical.choose h))) q) (fun _=>0)
theorem zcf{i n:Nat}(h:wC hP hS x₀ i n)(q:Question):qu hP hS x₀ i q=zaa hP hS (xx hP hS x₀ n) (wR hP hS (xx hP hS x₀ n)+(i-xm hP hS x₀ n)) q:=by
 have hx:∃n,wC hP hS x₀ i n:=⟨n,h⟩;unfold qu;rw[dif_pos hx,zef hP hS x₀ (Classical.choose_spec hx) h]
theorem zhu:∀n,runN P n (solo x₀.g (re x₀.w (qu hP hS x₀) 0))= .next (solo (xx hP hS x₀ n).g (re (xx hP hS x₀ n).w (qu hP hS x₀) (xm hP hS x₀ n))):=by
 intro n;induction n with
 |zero=>rfl
 |succ n ih=>
  have h1:runN P (n+1) (solo x₀.g (re x₀.w (qu hP hS x₀) 0))=runN P 1 (solo (xx hP hS x₀ n).g (re (xx hP hS x₀ n).w (qu hP hS x₀) (xm hP hS x₀ n))):=by rw[runN_add P n 1,ih]
  rw[h1];simp only[runN];rw[zgq hP hS (xx hP hS x₀ n) (qu hP hS x₀) (xm hP hS x₀ n) (fun i hi q=>by
   rw[zcf hP hS x₀ (i:=xm hP hS x₀ n+i) (n:=n) ⟨by omega,by show _<xm hP hS x₀ n+_;omega⟩]
   rw[Nat.add_sub_cancel_left];rfl)]
  rfl
include hP hS x₀ in
theorem ziI:False:=by
 obtain⟨n,g',w',h1,h2,h3⟩:=x₀.lone (qu hP hS x₀) 0
 rw[zhu hP hS x₀ n] at h1;simp only[Stepped.next.injEq] at h1;obtain⟨e1,e2⟩:=ye h1
 subst e1;subst e2;exact(xx hP hS x₀ n).bad (.stop fun T d=>(hS _ _ T d h3:))
end
theorem jK(hP:TameProg P)(hS:yG S){g:Goroutine}{w:World}(ht:zV g)(hr:g.status= .running)(hL:Lone P S g w):Must P S g w:=
 Classical.byContradiction fun h=>ziI hP hS ⟨g,w,ht,hr,hL,h⟩
end
abbrev Rn:=Nat->Nat->Prop
def Ext(ρ ρ':Rn):Prop:=∀x y,ρ x y->ρ' x y
structure One (N:Nat) (ρ:Rn):Prop where
 inj:∀x x' y y',ρ x x'->ρ y y'->(x=y↔x'=y')
 low:∀x y,ρ x y->(x<N↔y<N)
theorem Ext.refl(ρ:Rn):Ext ρ ρ:=fun _ _ h=>h
theorem Ext.trans{a b c:Rn}(h:Ext a b)(k:Ext b c):Ext a c:=fun _ _ x=>k _ _ (h _ _ x)
structure ARel (ρ:Rn) (a a':Addr):Prop where
 block:ρ a.block a'.block
 off:a.off=a'.off
 spot:a.spot=a'.spot
theorem ARel.mono{ρ ρ':Rn}(h:Ext ρ ρ'){a a':Addr}(x:ARel ρ a a'):ARel ρ' a a':=⟨h _ _ x.block,x.off,x.spot⟩
theorem ARel.add{ρ:Rn}{a a':Addr}(x:ARel ρ a a')(n:Nat):ARel ρ (a.add n) (a'.add n):=by
 unfold Addr.add;split
 ·exact x
 ·exact⟨x.block,by simp[x.off],rfl⟩
inductive OpRel {α:Type} (R:α->α->Prop):Option α->Option α->Prop
 |none:OpRel R none none
 |some {a b:α} (h:R a b):OpRel R (some a) (some b)
theorem OpRel.mono{α:Type}{R R':α->α->Prop}(h:∀a b,R a b->R' a b){a b:Option α}(x:OpRel R a b):OpRel R' a b:=by
 cases x with
 |none=>exact .none
 |some y=>exact .some (h _ _ y)
def vL:List TypeId:=[253]
inductive VRel (F:FuncId->Prop) (ρ:Rn):Value->Value->Prop
 |bool (b:Bool):VRel F ρ (.bool b) (.bool b)
 |int (k:IntKind) (n:Int):VRel F ρ (.int k n) (.int k n)
 |string (s:ByteArray):VRel F ρ (.string s) (.string s)
 |pointer {a a':Option Addr} (h:OpRel (ARel ρ) a a'):VRel F ρ (.pointer a) (.pointer a')
 |slice {a a':Option Addr} (n m:Nat) (h:OpRel (ARel ρ) a a'):VRel F ρ (.slice a n m) (.slice a' n m)
 |chan {a a':Option Nat} (h:OpRel ρ a a'):VRel F ρ (.chan a) (.chan a')
 |func {f:FuncId} {fs fs' cs cs':Array Value} (hf:F f) (n1:fs.size=fs'.size) (h1:∀(i:Nat) (v v':Value),fs[i]? =some v->fs'[i]? =some v'->VRel F ρ v v')
  (n2:cs.size=cs'.size) (h2:∀(i:Nat) (v v':Value),cs[i]? =some v->cs'[i]? =some v'->VRel F ρ v v'):VRel F ρ (.func (.func f) fs cs) (.func (.func f) fs' cs')
 |nilFunc:VRel F ρ .nilFunc .nilFunc
 |iface (t:TypeId) {v v':Value} (h:VRel F ρ v v'):VRel F ρ (.iface t v) (.iface t v')
 |nilIface:VRel F ρ .nilIface .nilIface
 |agg {cs cs':Array Value} (n:cs.size=cs'.size) (h:∀(i:Nat) (v v':Value),cs[i]? =some v->cs'[i]? =some v'->VRel F ρ v v'):VRel F ρ (.agg cs) (.agg cs')
 |tuple {cs cs':Array Value} (n:cs.size=cs'.size) (h:∀(i:Nat) (v v':Value),cs[i]? =some v->cs'[i]? =some v'->VRel F ρ v v'):VRel F ρ (.tuple cs) (.tuple cs')
 |far (t:TypeId) (b o:Nat) (ht:vL.contains t=true):VRel F ρ (.iface t (.tuple #[.complex .f64 b o])) (.iface t (.pointer (some ⟨b,o,none⟩)))
structure VsRel (F:FuncId->Prop) (ρ:Rn) (cs cs':Array Value):Prop where
 size:cs.size=cs'.size
 all:∀(i:Nat) (v v':Value),cs[i]? =some v->cs'[i]? =some v'->VRel F ρ v v'
section
variable {F:FuncId->Prop} {ρ ρ':Rn}
theorem VRel.mono(h:Ext ρ ρ'){v v':Value}(x:VRel F ρ v v'):VRel F ρ' v v':=by
 induction x with
 |bool b=>exact .bool b
 |int k n=>exact .int k n
 |string s=>exact .string s
 |pointer x=>exact .pointer (x.mono fun _ _=>ARel.mono h)
 |slice n m x=>exact .slice n m (x.mono fun _ _=>ARel.mono h)
 |chan x=>exact .chan (x.mono h)
 |func hf n1 _ n2 _ i1 i2=>exact .func hf n1 i1 n2 i2
 |nilFunc=>exact .nilFunc
 |iface t _ i=>exact .iface t i
 |far t b o ht=>exact .far t b o ht
 |nilIface=>exact .nilIface
 |agg n _ i=>exact .agg n i
 |tuple n _ i=>exact .tuple n i
theorem VsRel.mono(h:Ext ρ ρ'){v v':Array Value}(x:VsRel F ρ v v'):VsRel F ρ' v v':=⟨x.size,fun i a b h1 h2=>(x.all i a b h1 h2).mono h⟩
theorem VsRel.get{cs cs':Array Value}(h:VsRel F ρ cs cs')(i:Nat):OpRel (VRel F ρ) cs[i]? cs'[i]? :=by
 by_cases hi:i<cs.size
 ·have hi':i<cs'.size:=h.size▸hi;rw[Array.getElem?_eq_getElem hi,Array.getElem?_eq_getElem hi'];exact .some (h.all i _ _ (Array.getElem?_eq_getElem hi) (Array.getElem?_eq_getElem hi'))
 ·have hi':¬i<cs'.size:=h.size▸hi;rw[Array.getElem?_eq_none (by omega),Array.getElem?_eq_none (by omega)]
  exact .none
theorem qK{cs cs':Array Value}(h:∀i:Nat,OpRel (VRel F ρ) cs[i]? cs'[i]?):VsRel F ρ cs cs':=by
 refine⟨?_,fun i v v' h1 h2=>by have:=h i;rw[h1,h2] at this;cases this;assumption⟩
 rcases Nat.lt_trichotomy cs.size cs'.size with hlt|e|hlt
 ·have:=h cs.size
  rw[Array.getElem?_eq_none (Nat.le_refl _),Array.getElem?_eq_getElem hlt] at this;cases this
 ·exact e
 ·have:=h cs'.size
  rw[Array.getElem?_eq_none (Nat.le_refl _),Array.getElem?_eq_getElem hlt] at this;cases this
theorem VsRel.getD{cs cs':Array Value}(h:VsRel F ρ cs cs')(i:Nat){d d':Value}(hd:VRel F ρ d d'):VRel F ρ (cs.getD i d) (cs'.getD i d'):=by
 rw[Array.getD_eq_getD_getElem?,Array.getD_eq_getD_getElem?];have:=h.get i
 revert this;generalize cs[i]? =x,cs'[i]? =y;intro h;cases h with
 |none=>exact hd
 |some h=>exact h
theorem VsRel.empty:VsRel F ρ #[] #[]:=⟨rfl,fun i v v' h=>by simp at h⟩
theorem VsRel.push{cs cs':Array Value}(h:VsRel F ρ cs cs'){v v':Value}(hv:VRel F ρ v v'):VsRel F ρ (cs.push v) (cs'.push v'):=qK fun i=>by
 rw[Array.getElem?_push,Array.getElem?_push,h.size];split
 ·exact .some hv
 ·exact h.get i
theorem VsRel.append{a a' b b':Array Value}(h:VsRel F ρ a a')(k:VsRel F ρ b b'):VsRel F ρ (a++b) (a'++b'):=qK fun i=>by
 rw[Array.getElem?_append,Array.getElem?_append,h.size];split
 ·exact h.get i
 ·exact k.get _
theorem VsRel.set{a a':Array Value}(h:VsRel F ρ a a')(j:Nat){v v':Value}(hv:VRel F ρ v v'):VsRel F ρ (a.setIfInBounds j v) (a'.setIfInBounds j v'):=qK fun i=>by
 rw[Array.getElem?_setIfInBounds,Array.getElem?_setIfInBounds,h.size];split
 ·split
  ·exact .some hv
  ·exact .none
 ·exact h.get i
theorem VsRel.extract{a a':Array Value}(h:VsRel F ρ a a')(i j:Nat):VsRel F ρ (a.extract i j) (a'.extract i j):=qK fun k=>by
 rw[Array.getElem?_extract,Array.getElem?_extract,h.size];split
 ·exact h.get _
 ·exact .none
theorem VsRel.replicate{v v':Value}(n:Nat)(hv:VRel F ρ v v'):VsRel F ρ (Array.replicate n v) (Array.replicate n v'):=qK fun i=>by
 rw[Array.getElem?_replicate,Array.getElem?_replicate];split
 ·exact .some hv
 ·exact .none
theorem VsRel.single{v v':Value}(hv:VRel F ρ v v'):VsRel F ρ #[v] #[v']:=VsRel.empty.push hv
theorem VRel.aggs{cs cs':Array Value}(h:VsRel F ρ cs cs'):VRel F ρ (.agg cs) (.agg cs'):= .agg h.size h.all
theorem VRel.tuples{cs cs':Array Value}(h:VsRel F ρ cs cs'):VRel F ρ (.tuple cs) (.tuple cs'):= .tuple h.size h.all
theorem VRel.undefs:VRel F ρ undef undef:= .tuples .empty
theorem VRel.cells{v v':Value}(h:VRel F ρ v v'):VsRel F ρ v.cells v'.cells:=by
 cases h with
 |agg n h=>exact⟨n,h⟩
 |bool b=>exact .single (.bool b)
 |int k n=>exact .single (.int k n)
 |string s=>exact .single (.string s)
 |pointer x=>exact .single (.pointer x)
 |slice n m x=>exact .single (.slice n m x)
 |chan x=>exact .single (.chan x)
 |func hf n1 h1 n2 h2=>exact .single (.func hf n1 h1 n2 h2)
 |nilFunc=>exact .single .nilFunc
 |iface t h=>exact .single (.iface t h)
 |far t b o ht=>exact .single (.far t b o ht)
 |nilIface=>exact .single .nilIface
 |tuple n h=>exact .single (.tuple n h)
end
def Gr(v:Value):Prop:=∀F ρ,VRel F ρ v v
theorem vsRel_gr{F:FuncId->Prop}{ρ:Rn}{cs:Array Value}(h:∀v∈cs,Gr v):VsRel F ρ cs cs:=⟨rfl,fun i v v' h1 h2=>by
 rw[h1] at h2;cases h2;exact h v (Array.mem_of_getElem? h1) _ _⟩
inductive ObRel (F:FuncId->Prop) (ρ:Rn):Obj->Obj->Prop
 |cells {c c':Array Value} (e:TypeId) (f:Nat×Nat) (h:VsRel F ρ c c'):ObRel F ρ (.cells c e f) (.cells c' e f)
 |chan (a a':Nat) (b b':Array Value) (x x':Bool) (n n' m m':Nat) (t t':Bool):ObRel F ρ (.chan a b x n m t) (.chan a' b' x' n' m' t')
 |number {a a':Addr} (l:Bool) (h:ARel ρ a a'):ObRel F ρ (.number a l) (.number a' l)
theorem ObRel.mono{F:FuncId->Prop}{ρ ρ':Rn}(h:Ext ρ ρ'){o o':Obj}(x:ObRel F ρ o o'):ObRel F ρ' o o':=by
 cases x with
 |cells e f x=>exact .cells e f (x.mono h)
 |chan=>exact .chan ..
 |number l x=>exact .number l (x.mono h)
def WRel(F:FuncId->Prop)(ρ:Rn)(w w':World):Prop:=∀r r',ρ r r'->∃o o',w.heap[r]? =some o/\w'.heap[r']? =some o'/\ObRel F ρ o o'
structure Tied (N:Nat) (w w':World):Prop where
 tape:∀i q,w.tape (w.drawn+i) q=w'.tape (w'.drawn+i) q
 os:w.os=w'.os
 size:N<=w.heap.size
 size':N<=w'.heap.size
def isChan(o:Obj):Prop:=o.isChan=true
structure Moved (N:Nat) (F:FuncId->Prop) (ρ:Rn) (w w':World) (ρ₁:Rn) (w₁ w₁':World):Prop where
 ext:Ext ρ ρ₁
 one:One N ρ₁
 rel:WRel F ρ₁ w₁ w₁'
 tape:w₁.tape=w.tape
 tape':w₁'.tape=w'.tape
 drawn:∃n,w₁.drawn=w.drawn+n/\w₁'.drawn=w'.drawn+n
 grow:w.heap.size<=w₁.heap.size
 grow':w'.heap.size<=w₁'.heap.size
 new:∀x y,ρ₁ x y->ρ x y\/(w.heap.size<=x/\w'.heap.size<=y)
 keep:∀x:Nat,x<w.heap.size->(∀y,¬ρ x y)->w₁.heap[x]? =w.heap[x]?
 keep':∀y:Nat,y<w'.heap.size->(∀x,¬ρ x y)->w₁'.heap[y]? =w'.heap[y]?
 chan:∀(x:Nat) (o:Obj),w.heap[x]? =some o->isChan o->w₁.heap[x]? =some o
 chan':∀(y:Nat) (o:Obj),w'.heap[y]? =some o->isChan o->w₁'.heap[y]? =some o
 only:∀(x:Nat) (o:Obj),w₁.heap[x]? =some o->isChan o->w.heap[x]? =some o
 only':∀(x:Nat) (o:Obj),w₁'.heap[x]? =some o->isChan o->w'.heap[x]? =some o
 os:w₁.os=w.os
 os':w₁'.os=w'.os
 output:w₁.output=w.output
 output':w₁'.output=w'.output
section
variable {N:Nat} {F:FuncId->Prop} {ρ ρ₁ ρ₂:Rn} {w w' w₁ w₁' w₂ w₂':World}
theorem Moved.refl(h1:One N ρ)(h2:WRel F ρ w w'):Moved N F ρ w w' ρ w w':=
 ⟨Ext.refl _,h1,h2,rfl,rfl,⟨0,rfl,rfl⟩,Nat.le_refl _,Nat.le_refl _,fun _ _ h=> .inl h,fun _ _ _=>rfl,fun _ _ _=>rfl,fun _ _ h _=>h,fun _ _ h _=>h,fun _ _ h _=>h,fun _ _ h _=>h,rfl,rfl,rfl,rfl⟩
theorem Moved.trans(a:Moved N F ρ w w' ρ₁ w₁ w₁')(b:Moved N F ρ₁ w₁ w₁' ρ₂ w₂ w₂'):Moved N F ρ w w' ρ₂ w₂ w₂':=by
 refine⟨a.ext.trans b.ext,b.one,b.rel,b.tape.trans a.tape,b.tape'.trans a.tape',?_,Nat.le_trans a.grow b.grow,Nat.le_trans a.grow' b.grow',fun x y h=>?_,fun x hx hn=>?_,fun y hy hn=>?_,
  fun x o h1 h2=>b.chan x o (a.chan x o h1 h2) h2,fun x o h1 h2=>b.chan' x o (a.chan' x o h1 h2) h2,fun x o h1 h2=>a.only x o (b.only x o h1 h2) h2,fun x o h1 h2=>a.only' x o (b.only' x o h1 h2) h2,b.os.trans a.os,b.os'.trans a.os',b.output.trans a.output,b.output'.trans a.output'⟩
 ·obtain⟨n,h1,h2⟩:=a.drawn
  obtain⟨m,h3,h4⟩:=b.drawn
  exact⟨n+m,by omega,by omega⟩
 ·rcases b.new x y h with h|⟨h1,h2⟩
  ·exact a.new x y h
  ·exact .inr ⟨Nat.le_trans a.grow h1,Nat.le_trans a.grow' h2⟩
 ·rw[b.keep x (Nat.lt_of_lt_of_le hx a.grow) (fun y h=>(a.new x y h).elim (hn y) (fun h=>by omega)),a.keep x hx hn]
 ·rw[b.keep' y (Nat.lt_of_lt_of_le hy a.grow') (fun x h=>(a.new x y h).elim (hn x) (fun h=>by omega)),a.keep' y hy hn]
theorem Moved.tied(a:Moved N F ρ w w' ρ₁ w₁ w₁')(h:Tied N w w'):Tied N w₁ w₁':=by
 obtain⟨n,h1,h2⟩:=a.drawn
 refine⟨fun i q=>?_,by rw[a.os,a.os',h.os],Nat.le_trans h.size a.grow,Nat.le_trans h.size' a.grow'⟩
 rw[a.tape,a.tape',h1,h2,Nat.add_assoc,Nat.add_assoc];exact h.tape (n+i) q
theorem lt_of_some{o:Obj}{h:Array Obj}{r:Nat}(x:h[r]? =some o):r<h.size:=(Array.getElem?_eq_some_iff.1 x).1
theorem WRel.lt(h:WRel F ρ w w'){x y:Nat}(k:ρ x y):x<w.heap.size/\y<w'.heap.size:=by
 obtain⟨o,o',h1,h2,_⟩:=h x y k
 exact⟨lt_of_some h1,lt_of_some h2⟩
def addR(ρ:Rn)(a b:Nat):Rn:=fun x y=>ρ x y\/(x=a/\y=b)
theorem ext_add(ρ:Rn)(a b:Nat):Ext ρ (addR ρ a b):=fun _ _ h=> .inl h
theorem zdW(h1:One N ρ)(h2:WRel F ρ w w')(hn:N<=w.heap.size)(hn':N<=w'.heap.size){o o':Obj}(ho:ObRel F ρ o o')(hnc:¬isChan o):
 Moved N F ρ w w' (addR ρ w.heap.size w'.heap.size) {w with heap:=w.heap.push o} {w' with heap:=w'.heap.push o'}:=by
 have hnc':¬isChan o':=by
  intro h;apply hnc;cases ho<;>first|exact h|rfl
 refine⟨ext_add _ _ _,?_,?_,rfl,rfl,⟨0,rfl,rfl⟩,by simp,by simp,?_,?_,?_,?_,?_,?_,?_,rfl,rfl,rfl,rfl⟩
 ·refine⟨fun x x' y y' a b=>?_,fun x y a=>?_⟩
  ·rcases a with a|⟨rfl,rfl⟩<;>rcases b with b|⟨rfl,rfl⟩
   ·exact h1.inj x x' y y' a b
   ·have:=h2.lt a
    omega
   ·have:=h2.lt b
    omega
   ·simp
  ·rcases a with a|⟨rfl,rfl⟩
   ·exact h1.low x y a
   ·omega
 ·intro r r' h;rcases h with h|⟨rfl,rfl⟩
  ·obtain⟨a,b,e1,e2,e3⟩:=h2 r r' h
   have:=h2.lt h
   refine⟨a,b,?_,?_,e3.mono (ext_add _ _ _)⟩
   ·show(w.heap.push o)[r]? =some a
    rw[Array.getElem?_push,if_neg (by omega)];exact e1
   ·show(w'.heap.push o')[r']? =some b
    rw[Array.getElem?_push,if_neg (by omega)];exact e2
  ·exact⟨o,o',by simp,by simp,ho.mono (ext_add _ _ _)⟩
 ·rintro x y (h|⟨rfl,rfl⟩)
  ·exact .inl h
  ·exact .inr ⟨Nat.le_refl _,Nat.le_refl _⟩
 ·intro x hx _;show(w.heap.push o)[x]? =_
  rw[Array.getElem?_push,if_neg (by omega)]
 ·intro x hx _;show(w'.heap.push o')[x]? =_
  rw[Array.getElem?_push,if_neg (by omega)]
 ·intro x a e _;show(w.heap.push o)[x]? =_
  rw[Array.getElem?_push,if_neg (by have:=lt_of_some e;omega)];exact e
 ·intro x a e _;show(w'.heap.push o')[x]? =_
  rw[Array.getElem?_push,if_neg (by have:=lt_of_some e;omega)];exact e
 ·intro x a (e:(w.heap.push o)[x]? =some a) hc
  rw[Array.getElem?_push] at e
  split at e
  ·cases e;exact(hnc hc).elim
  ·exact e
 ·intro x a (e:(w'.heap.push o')[x]? =some a) hc
  rw[Array.getElem?_push] at e
  split at e
  ·cases e;exact(hnc' hc).elim
  ·exact e
theorem moved_draw(h1:One N ρ)(h2:WRel F ρ w w'):Moved N F ρ w w' ρ {w with drawn:=w.drawn+1} {w' with drawn:=w'.drawn+1}:=
 ⟨Ext.refl _,h1,h2,rfl,rfl,⟨1,rfl,rfl⟩,Nat.le_refl _,Nat.le_refl _,fun _ _ h=> .inl h,fun _ _ _=>rfl,fun _ _ _=>rfl,fun _ _ h _=>h,fun _ _ h _=>h,fun _ _ h _=>h,fun _ _ h _=>h,rfl,rfl,rfl,rfl⟩
theorem vo(h1:One N ρ)(h2:WRel F ρ w w'){r r':Nat}(hr:ρ r r'){f f':Obj->Obj}(hf:∀o o',ObRel F ρ o o'->ObRel F ρ (f o) (f' o'))(hc:∀o,isChan o->f o=o)(hc':∀o,isChan o->f' o=o)(hb:∀o,isChan (f o)->f o=o)(hb':∀o,isChan (f' o)->f' o=o):
 Moved N F ρ w w' ρ {w with heap:=w.heap.modify r f} {w' with heap:=w'.heap.modify r' f'}:=by
 have hm:∀(h:Array Obj) (j:Nat) (g:Obj->Obj) (x:Nat),(h.modify j g)[x]? =if j=x then (h[x]?).map g else h[x]? :=fun h j g x=>Array.getElem?_modify;refine⟨Ext.refl _,h1,?_,rfl,rfl,⟨0,rfl,rfl⟩,by simp,by simp,fun _ _ h=> .inl h,?_,?_,?_,?_,?_,?_,rfl,rfl,rfl,rfl⟩
 ·intro x x' h;obtain⟨a,b,e1,e2,e3⟩:=h2 x x' h
  simp only[hm];by_cases e:r=x
  ·have e':=(h1.inj r r' x x' hr h).1 e;rw[if_pos e,if_pos e',e1,e2];exact⟨_,_,rfl,rfl,hf a b e3⟩
  ·have e':¬r'=x':=fun k=>e ((h1.inj r r' x x' hr h).2 k);rw[if_neg e,if_neg e'];exact⟨a,b,e1,e2,e3⟩
 ·intro x _ hn;simp only[hm];rw[if_neg (fun e:r=x=>hn r' (e▸hr))]
 ·intro x _ hn;simp only[hm];rw[if_neg (fun e:r'=x=>hn r (e▸hr))]
 ·intro x o e ho;simp only[hm];split
  ·rw[e];simp[hc o ho]
  ·exact e
 ·intro x o e ho;simp only[hm];split
  ·rw[e];simp[hc' o ho]
  ·exact e
 ·intro x o e ho;simp only[hm] at e
  split at e
  ·obtain⟨y,hy,rfl⟩:=Option.map_eq_some_iff.1 e
   rw[hy,hb y ho]
  ·exact e
 ·intro x o e ho;simp only[hm] at e
  split at e
  ·obtain⟨y,hy,rfl⟩:=Option.map_eq_some_iff.1 e
   rw[hy,hb' y ho]
  ·exact e
theorem zbn(h1:One N ρ)(h2:WRel F ρ w w'){a a':Addr}(ha:ARel ρ a a'){v v':Value}(hv:VRel F ρ v v'):Moved N F ρ w w' ρ (w.setCell a v) (w'.setCell a' v'):=by
 refine vo h1 h2 ha.block (fun o o' ho=>?_) (fun o ho=>?_) (fun o ho=>?_) (fun o ho=>?_) (fun o ho=>?_)
 ·cases ho with
  |cells e f h=>
   show ObRel F ρ (.cells (if a.spot.isSome then _ else _) e f) (.cells (if a'.spot.isSome then _ else _) e f);rw[ha.spot];split
   ·exact .cells e f h
   ·rw[ha.off];exact .cells e f (h.set _ hv)
  |chan=>exact .chan ..
  |number l x=>exact .number l x
 ·cases o<;>first|rfl|cases ho
 ·cases o<;>first|rfl|cases ho
 ·cases o<;>first|rfl|cases ho
 ·cases o<;>first|rfl|cases ho
theorem moved_freeze(h1:One N ρ)(h2:WRel F ρ w w'){a a':Addr}(ha:ARel ρ a a')(n:Nat):Moved N F ρ w w' ρ (w.freeze a n) (w'.freeze a' n):=by
 unfold World.freeze;split
 ·exact .refl h1 h2
 ·refine vo h1 h2 ha.block (fun o o' ho=>?_) (fun o ho=>?_) (fun o ho=>?_) (fun o ho=>?_) (fun o ho=>?_)
  ·cases ho with
   |cells e f h=>
    obtain⟨lo,hi⟩:=f
    dsimp only;rw[ha.off];exact .cells e _ h
   |chan=>exact .chan ..
   |number l x=>exact .number l x
  ·cases o<;>first|rfl|cases ho
  ·cases o<;>first|rfl|cases ho
  ·cases o<;>first|rfl|cases ho
  ·cases o<;>first|rfl|cases ho
theorem rel_cell(h2:WRel F ρ w w'){a a':Addr}(ha:ARel ρ a a'):(∃v v',w.cell? a=some v/\w'.cell? a'=some v'/\VRel F ρ v v')\/w.cell? a=none:=by
 obtain⟨o,o',e1,e2,ho⟩:=h2 _ _ ha.block
 unfold World.cell?
 rw[e1,e2];cases ho with
 |cells e f h=>
  dsimp only;rw[ha.spot];split
  ·exact .inr rfl
  ·have:=h.get a.off
   rw[<-ha.off];rename_i c c' _;generalize c[a.off]? =x,c'[a.off]? =y at this⊢;cases this with
   |none=>exact .inr rfl
   |some h=>exact .inl ⟨_,_,rfl,rfl,h⟩
 |chan=>exact .inr rfl
 |number=>exact .inr rfl
theorem zel(h2:WRel F ρ w w'){a a':Addr}(ha:ARel ρ a a')(P:Program)(b:Bool):∃m,w.farLoad P a b= .error (.stuck m):=by
 obtain⟨o,o',e1,e2,ho⟩:=h2 _ _ ha.block
 unfold World.farLoad World.noCell;rw[e1];cases ho<;>exact⟨_,rfl⟩
theorem farS_stuck(h2:WRel F ρ w w'){a a':Addr}(ha:ARel ρ a a')(P:Program)(v:Value)(b:Bool):∃m,w.farStore P a v b= .error (.stuck m):=by
 obtain⟨o,o',e1,e2,ho⟩:=h2 _ _ ha.block
 unfold World.farStore World.noCell;rw[e1];cases ho<;>exact⟨_,rfl⟩
theorem rel_shape(h2:WRel F ρ w w'){r r':Nat}(hr:ρ r r'):w.shape? r=w'.shape? r':=by
 obtain⟨o,o',e1,e2,ho⟩:=h2 _ _ hr
 unfold World.shape?
 rw[e1,e2];cases ho with
 |cells e f h=>dsimp only;rw[h.size]
 |chan=>rfl
 |number=>rfl
theorem rel_frozen(h2:WRel F ρ w w'){a a':Addr}(ha:ARel ρ a a'):w.frozen? a=w'.frozen? a':=by
 obtain⟨o,o',e1,e2,ho⟩:=h2 _ _ ha.block
 unfold World.frozen?
 rw[e1,e2];cases ho with
 |cells e f h=>obtain⟨lo,hi⟩:=f;dsimp only;rw[ha.off]
 |chan=>rfl
 |number=>rfl
end
def deadHalt:Halt->Prop
 | .stuck _=>True
 | .unsupported (.initOrder _)=>False
 | .unsupported _=>True
 |_=>False
def zas(m:Mark):Prop:=m= .noRoom\/∃f,m= .extern f
inductive SRel (P:Program) (F:FuncId->Prop) {α:Type} (A:Rn->α->α->Prop):Rn->Sem α->Sem α->Prop
 |pure {ρ:Rn} {a a':α} (h:A ρ a a'):SRel P F A ρ (.pure a) (.pure a')
 |load {ρ:Rn} {a a':Addr} {k k':Value->Sem α} (ha:ARel ρ a a') (hk:∀v v',VRel F ρ v v'->SRel P F A ρ (k v) (k' v')):SRel P F A ρ (.load .plain a k) (.load .plain a' k')
 |store {ρ:Rn} {a a':Addr} {v v':Value} {k k':Sem α} (ha:ARel ρ a a') (hv:VRel F ρ v v') (hk:SRel P F A ρ k k'):SRel P F A ρ (.store .plain a v k) (.store .plain a' v' k')
 |new {ρ:Rn} {o o':Obj} {k k':Nat->Sem α} (ho:ObRel F ρ o o') (hnc:¬isChan o) (hk:∀r r',SRel P F A (addR ρ r r') (k r) (k' r')):SRel P F A ρ (.new o k) (.new o' k')
 |shape {ρ:Rn} {r r':Nat} {k k':Option (TypeId×Nat)->Sem α} (hr:ρ r r') (hk:∀s,SRel P F A ρ (k s) (k' s)):SRel P F A ρ (.shape r k) (.shape r' k')
 |freeze {ρ:Rn} {a a':Addr} {n:Nat} {k k':Sem α} (ha:ARel ρ a a') (hk:SRel P F A ρ k k'):SRel P F A ρ (.freeze a n k) (.freeze a' n k')
 |frozen {ρ:Rn} {a a':Addr} {k k':Bool->Sem α} (ha:ARel ρ a a') (hk:∀s,SRel P F A ρ (k s) (k' s)):SRel P F A ρ (.frozen a k) (.frozen a' k')
 |choose {ρ:Rn} {q:Question} {k k':Nat->Sem α} (hk:∀s,SRel P F A ρ (k s) (k' s)):SRel P F A ρ (.choose q k) (.choose q k')
 |program {ρ:Rn} {k k':Program->Sem α} (hk:SRel P F A ρ (k P) (k' P)):SRel P F A ρ (.program k) (.program k')
 |mark {ρ:Rn} {m:Mark} {k k':Sem α} (hm:zas m) (hk:SRel P F A ρ k k'):SRel P F A ρ (.mark m k) (.mark m k')
 |look {ρ:Rn} {r r':Nat} {k k':Obj->Sem α} (hr:ρ r r') (hk:∀o o',ObRel F ρ o o'->(∀c e f,o≠ .cells c e f)->SRel P F A ρ (k o) (k' o')):SRel P F A ρ (.getObj r k) (.getObj r' k')
 |env {ρ:Rn} {k k':SysRet->Sem α} (hk:∀r,SRel P F A ρ (k r) (k' r)):SRel P F A ρ (.sys .env k) (.sys .env k')
 |use {ρ:Rn} {s s':Sem α} (hk:One P.globals.size ρ->SRel P F A ρ s s'):SRel P F A ρ s s'
 |panic {ρ:Rn} {v v':Value} (h:VRel F ρ v v'):SRel P F A ρ (.halt (.panic v)) (.halt (.panic v'))
 |dead {ρ:Rn} {h:Halt} {s':Sem α} (hh:deadHalt h):SRel P F A ρ (.halt h) s'
theorem SRel.mono{P:Program}{F:FuncId->Prop}{α:Type}{A B:Rn->α->α->Prop}{ρ:Rn}{s s':Sem α}(h:SRel P F A ρ s s')(hab:∀ρ a a',A ρ a a'->B ρ a a'):SRel P F B ρ s s':=by
 induction h with
 |pure h=>exact .pure (hab _ _ _ h)
 |load ha _ ih=>exact .load ha ih
 |store ha hv _ ih=>exact .store ha hv ih
 |new ho hnc _ ih=>exact .new ho hnc ih
 |shape hr _ ih=>exact .shape hr ih
 |freeze ha _ ih=>exact .freeze ha ih
 |frozen ha _ ih=>exact .frozen ha ih
 |choose _ ih=>exact .choose ih
 |program _ ih=>exact .program ih
 |mark hm _ ih=>exact .mark hm ih
 |look hr _ ih=>exact .look hr ih
 |env _ ih=>exact .env ih
 |use _ ih=>exact .use ih
 |panic h=>exact .panic h
 |dead h=>exact .dead h
theorem SRel.bind{P:Program}{F:FuncId->Prop}{α β:Type}{A:Rn->α->α->Prop}{B:Rn->β->β->Prop}{ρ:Rn}{s s':Sem α}{f f':α->Sem β}(h:SRel P F A ρ s s')
 (hf:∀ρ₁,Ext ρ ρ₁->∀a a',A ρ₁ a a'->SRel P F B ρ₁ (f a) (f' a')):SRel P F B ρ (s >>= f) (s' >>= f'):=by
 show SRel P F B ρ (Sem.bind s f) (Sem.bind s' f');induction h with
 |pure h=>exact hf _ (Ext.refl _) _ _ h
 |load ha _ ih=>exact .load ha fun v v' hv=>ih v v' hv hf
 |store ha hv _ ih=>exact .store ha hv (ih hf)
 |new ho hnc _ ih=>exact .new ho hnc fun r r'=>ih r r' fun ρ₁ h=>hf ρ₁ ((ext_add _ _ _).trans h)
 |shape hr _ ih=>exact .shape hr fun s=>ih s hf
 |freeze ha _ ih=>exact .freeze ha (ih hf)
 |frozen ha _ ih=>exact .frozen ha fun s=>ih s hf
 |choose _ ih=>exact .choose fun s=>ih s hf
 |program _ ih=>exact .program (ih hf)
 |mark hm _ ih=>exact .mark hm (ih hf)
 |look hr _ ih=>exact .look hr fun o o' h h'=>ih o o' h h' hf
 |env _ ih=>exact .env fun r=>ih r hf
 |use _ ih=>exact .use fun h=>ih h hf
 |panic h=>exact .panic h
 |dead h=>exact .dead h
def z8(w:World)(r:Nat):Prop:=∃o,w.heap[r]? =some o/\isChan o
def EvR(ρ:Rn)(w:World)(e:Event):Prop:=(∃a x,e.loc= .cell a/\e.sync=false/\ρ x a.block/\¬z8 w a.block)\/(∃m,e.loc= .mark m/\zas m)\/(∃r x b,e=⟨.obj r,false,b⟩/\ρ x r/\(b=true\/¬z8 w r))\/e.loc= .output
theorem EvR.mono{ρ ρ':Rn}(h:Ext ρ ρ'){w:World}{e:Event}(x:EvR ρ w e):EvR ρ' w e:=by
 rcases x with⟨a,x,h1,h2,h3,h4⟩|x|⟨r,x,b,h1,h2,h3⟩|x
 ·exact .inl ⟨a,x,h1,h2,h _ _ h3,h4⟩
 ·exact .inr (.inl x)
 ·exact .inr (.inr (.inl ⟨r,x,b,h1,h _ _ h2,h3⟩))
 ·exact .inr (.inr (.inr x))
theorem EvR.back{ρ:Rn}{w w₁:World}(hc:∀(y:Nat) (o:Obj),w.heap[y]? =some o->isChan o->w₁.heap[y]? =some o){e:Event}(x:EvR ρ w₁ e):EvR ρ w e:=by
 rcases x with⟨a,x,h1,h2,h3,h4⟩|x|⟨r,x,b,h1,h2,h3⟩|x
 ·exact .inl ⟨a,x,h1,h2,h3,fun⟨o,k1,k2⟩=>h4 ⟨o,hc a.block o k1 k2,k2⟩⟩
 ·exact .inr (.inl x)
 ·exact .inr (.inr (.inl ⟨r,x,b,h1,h2,h3.imp id fun h ⟨o,k1,k2⟩=>h ⟨o,hc r o k1 k2,k2⟩⟩))
 ·exact .inr (.inr (.inr x))
theorem not_chan_cell{w:World}{a:Addr}{v:Value}(h:w.cell? a=some v):¬z8 w a.block:=by
 rintro⟨o,h1,h2⟩
 unfold World.cell? at h
 rw[h1] at h;cases o<;>first|(simp at h;done)|(cases h2;done)
inductive Side (P:Program) (F:FuncId->Prop) {α:Type} (A:Rn->α->α->Prop) (ρ:Rn) (w w':World) (es':Array Event):Result α×Array Event->Result α×Array Event->Prop
 |ok {ρ₁:Rn} {a a':α} {w₁ w₁':World} {e₁ new:Array Event} (m:Moved P.globals.size F ρ w w' ρ₁ w₁ w₁') (h:A ρ₁ a a') (hn:∀e∈new,EvR ρ₁ w' e):Side P F A ρ w w' es' (.ok a w₁,e₁) (.ok a' w₁',es'++new)
 |panic {ρ₁:Rn} {v v':Value} {w₁ w₁':World} {e₁ new:Array Event} (m:Moved P.globals.size F ρ w w' ρ₁ w₁ w₁') (h:VRel F ρ₁ v v') (hn:∀e∈new,EvR ρ₁ w' e):Side P F A ρ w w' es' (.halt (.panic v) w₁,e₁) (.halt (.panic v') w₁',es'++new)
 |dead {h:Halt} {w₁:World} {e₁:Array Event} {r:Result α×Array Event} (hh:deadHalt h):Side P F A ρ w w' es' (.halt h w₁,e₁) r
theorem Side.after{P:Program}{F:FuncId->Prop}{α:Type}{A:Rn->α->α->Prop}{ρ ρ₁:Rn}{w w' w₁ w₁':World}{es' new:Array Event}{x y:Result α×Array Event}(m:Moved P.globals.size F ρ w w' ρ₁ w₁ w₁')(hn:∀e∈new,EvR ρ₁ w' e)
 (h:Side P F A ρ₁ w₁ w₁' (es'++new) x y):Side P F A ρ w w' es' x y:=by
 cases h with
 |ok m2 h hn2=>
  rw[Array.append_assoc];exact .ok (m.trans m2) h fun e he=>(Array.mem_append.1 he).elim (fun h=>(hn e h).mono m2.ext) (fun h=>(hn2 e h).back m.chan')
 |panic m2 h hn2=>
  rw[Array.append_assoc];exact .panic (m.trans m2) h fun e he=>(Array.mem_append.1 he).elim (fun h=>(hn e h).mono m2.ext) (fun h=>(hn2 e h).back m.chan')
 |dead hh=>exact .dead hh
theorem not_comp{F:FuncId->Prop}{ρ:Rn}{v v':Value}(h:VRel F ρ v v'):((∃c,v= .agg c)\/∃c,v= .tuple c)\/((∀c,v≠ .agg c)/\(∀c,v≠ .tuple c)/\(∀c,v'≠ .agg c)/\(∀c,v'≠ .tuple c)):=by
 cases h<;>simp
theorem SRel.side{P:Program}{F:FuncId->Prop}{α:Type}{A:Rn->α->α->Prop}{ρ:Rn}{s s':Sem α}(h:SRel P F A ρ s s'):
 ∀(w w':World) (es es':Array Event),One P.globals.size ρ->WRel F ρ w w'->Tied P.globals.size w w'->Side P F A ρ w w' es' (s.runT P w es) (s'.runT P w' es'):=by
 induction h with
 |pure h=>
  intro w w' es es' h1 h2 h3;have:=Side.ok (P:=P) (es':=es') (e₁:=es) (new:= #[]) (Moved.refl h1 h2) h (by simp)
  simpa [Sem.runT] using this
 | @load ρ a a' k k' ha _ ih=>
   intro w w' es es' h1 h2 h3;simp only[Sem.runT];rcases rel_cell h2 ha with⟨v,v',e1,e2,hv⟩|h
   ·rw[e1,e2];refine Side.after (new:= #[⟨.cell a',false,false⟩]) (Moved.refl h1 h2) ?_ (ih v v' hv w w' _ _ h1 h2 h3);intro e he;simp only[List.mem_toArray,List.mem_singleton] at he;subst he;exact .inl ⟨a',_,rfl,rfl,ha.block,not_chan_cell e2⟩
   ·have hn:w.cell? a=none:=h;rw[hn];obtain⟨m,e⟩:=zel h2 ha P false
    have e':w.farLoad P a (Mode.plain==Mode.atomic)= .error (.stuck m):=e;dsimp only;rw[e'];exact .dead trivial
 | @store ρ a a' v v' k k' ha hv _ ih=>
   intro w w' es es' h1 h2 h3;rcases not_comp hv with(⟨c,rfl⟩|⟨c,rfl⟩)|⟨n1,n2,n3,n4⟩
   ·exact .dead trivial
   ·exact .dead trivial
   ·have r1:(Sem.store .plain a v k).runT P w es=(match w.cell? a with
     |some _=>if w.frozen? a then (.halt (.unsupported (.unsafePointer "a write to bytes that a string shares")) w,es) else k.runT P (w.setCell a v) (es.push ⟨.cell a,true,false⟩)
     |none=>match w.farStore P a v false with
      | .ok (w,touched)=>k.runT P w (es++touched.toArray.map (⟨.cell ·,true,false⟩))
      | .error h=>(.halt h w,es)):=by
     rw[Sem.runT]<;>first|rfl|(intro c e;first|exact n1 c e|exact n2 c e)
    have r2:(Sem.store .plain a' v' k').runT P w' es'=(match w'.cell? a' with
     |some _=>if w'.frozen? a' then (.halt (.unsupported (.unsafePointer "a write to bytes that a string shares")) w',es') else k'.runT P (w'.setCell a' v') (es'.push ⟨.cell a',true,false⟩)
     |none=>match w'.farStore P a' v' false with
      | .ok (w,touched)=>k'.runT P w (es'++touched.toArray.map (⟨.cell ·,true,false⟩))
      | .error h=>(.halt h w',es')):=by
     rw[Sem.runT]<;>first|rfl|(intro c e;first|exact n3 c e|exact n4 c e)
    rw[r1,r2];rcases rel_cell h2 ha with⟨u,u',e1,e2,hu⟩|h
    ·rw[e1,e2];dsimp only;rw[rel_frozen h2 ha];split
     ·exact .dead trivial
     ·have m:=zbn h1 h2 ha hv;refine Side.after (new:= #[⟨.cell a',true,false⟩]) m ?_ (ih _ _ _ _ m.one m.rel (m.tied h3));intro e he;simp only[List.mem_toArray,List.mem_singleton] at he;subst he;exact .inl ⟨a',_,rfl,rfl,ha.block,not_chan_cell e2⟩
    ·have hn:w.cell? a=none:=h;rw[hn];obtain⟨m,e⟩:=farS_stuck h2 ha P v false
     dsimp only;rw[e];exact .dead trivial
 | @new ρ o o' k k' ho hnc _ ih=>
   intro w w' es es' h1 h2 h3;have m:=zdW h1 h2 h3.size h3.size' ho hnc;simp only[Sem.runT];exact Side.after (new:= #[]) m (by simp) (by simpa using ih _ _ _ _ es es' m.one m.rel (m.tied h3))
 | @shape ρ r r' k k' hr _ ih=>
   intro w w' es es' h1 h2 h3;simp only[Sem.runT];rw[rel_shape h2 hr];exact ih _ _ _ _ _ h1 h2 h3
 | @freeze ρ a a' n k k' ha _ ih=>
   intro w w' es es' h1 h2 h3;have m:=moved_freeze h1 h2 ha n;simp only[Sem.runT];exact Side.after (new:= #[]) m (by simp) (by simpa using ih _ _ es es' m.one m.rel (m.tied h3))
 | @frozen ρ a a' k k' ha _ ih=>
   intro w w' es es' h1 h2 h3;simp only[Sem.runT];rw[rel_frozen h2 ha];exact ih _ _ _ _ _ h1 h2 h3
 | @choose ρ q k k' _ ih=>
   intro w w' es es' h1 h2 h3;simp only[Sem.runT];split
   ·exact ih _ _ _ _ _ h1 h2 h3
   ·have e:w.tape w.drawn q=w'.tape w'.drawn q:=h3.tape 0 q;rw[e];have m:=moved_draw h1 h2;exact Side.after (new:= #[]) m (by simp) (by simpa using ih _ _ _ es es' m.one m.rel (m.tied h3))
 |program _ ih=>
  intro w w' es es' h1 h2 h3;simp only[Sem.runT];exact ih _ _ _ _ h1 h2 h3
 | @mark ρ m k k' hm _ ih=>
   intro w w' es es' h1 h2 h3;simp only[Sem.runT];refine Side.after (new:= #[⟨.mark m,false,true⟩]) (Moved.refl h1 h2) ?_ (ih w w' _ _ h1 h2 h3);intro e he;simp only[List.mem_toArray,List.mem_singleton] at he;subst he;exact .inr (.inl ⟨m,rfl,hm⟩)
 | @look ρ r r' k k' hr _ ih=>
   intro w w' es es' h1 h2 h3;obtain⟨o,o',e1,e2,ho⟩:=h2 _ _ hr
   simp only[Sem.runT];rw[e1,e2];cases ho with
   |cells e f h=>exact .dead trivial
   |chan a a' b b' x x' n n' m m' t t'=>
    refine Side.after (new:= #[⟨.obj r',false,true⟩]) (Moved.refl h1 h2) ?_ (ih (.chan a b x n m t) (.chan a' b' x' n' m' t') (.chan ..) (by simp) w w' _ _ h1 h2 h3)
    intro e he;simp only[List.mem_toArray,List.mem_singleton] at he;subst he;exact .inr (.inr (.inl ⟨r',_,true,rfl,hr, .inl rfl⟩))
   | @number a a' l x=>
     refine Side.after (new:= #[⟨.obj r',false,false⟩]) (Moved.refl h1 h2) ?_ (ih (.number a l) (.number a' l) (.number l x) (by simp) w w' _ _ h1 h2 h3)
     intro e he;simp only[List.mem_toArray,List.mem_singleton] at he;subst he;refine .inr (.inr (.inl ⟨r',_,false,rfl,hr, .inr ?_⟩));rintro⟨o,k1,k2⟩
     rw[e2] at k1;cases k1;cases k2
 | @env ρ k k' _ ih=>
   intro w w' es es' h1 h2 h3;have e1:∀v:World,v.sys .env=(.strings v.os.env,v):=fun v=>rfl;simp only[Sem.runT,e1];rw[h3.os];refine Side.after (new:= #[⟨.output,true,false⟩]) (Moved.refl h1 h2) ?_ (ih _ w w' _ _ h1 h2 h3);intro e he;simp only[List.mem_toArray,List.mem_singleton] at he;subst he;exact .inr (.inr (.inr rfl))
 |use _ ih=>
  intro w w' es es' h1 h2 h3;exact ih h1 w w' es es' h1 h2 h3
 |panic h=>
  intro w w' es es' h1 h2 h3;have:=Side.panic (P:=P) (A:=A) (es':=es') (e₁:=es) (new:= #[]) (Moved.refl h1 h2) h (by simp)
  simpa [Sem.runT] using this
 |dead hh=>
  intro w w' es es' h1 h2 h3;exact .dead hh
abbrev SV(P:Program)(F:FuncId->Prop)(ρ:Rn)(s s':Sem Value):Prop:=SRel P F (fun ρ v v'=>VRel F ρ v v') ρ s s'
abbrev SE(P:Program)(F:FuncId->Prop){α:Type}(ρ:Rn)(s s':Sem α):Prop:=SRel P F (fun _ a a'=>a=a') ρ s s'
def ZGr(P:Program)(t:TypeId):Prop:=∀i v,P.info? t=some i->i.zero=some v->Gr v
section
variable {P:Program} {F:FuncId->Prop} {ρ:Rn} {α β:Type} {A:Rn->α->α->Prop} {B:Rn->β->β->Prop}
theorem sr_program{k k':Program->Sem β}(h:SRel P F B ρ (k P) (k' P)):SRel P F B ρ (program >>= k) (program >>= k'):= .program h
theorem SRel.eqs{s s':Sem α}(h:SE P F ρ s s'){f f':α->Sem β}(hf:∀ρ₁,Ext ρ ρ₁->∀a,SRel P F B ρ₁ (f a) (f' a)):SRel P F B ρ (s >>= f) (s' >>= f'):=
 h.bind fun ρ₁ h₁ a a' e=>e▸hf ρ₁ h₁ a
theorem zQ{t:TypeId}{f f':TypeInfo->Sem β}(h:∀i,P.info? t=some i->SRel P F B ρ (f i) (f' i)):SRel P F B ρ (typeInfo t >>= f) (typeInfo t >>= f'):=by
 refine .program ?_;show SRel P F B ρ (Sem.bind (match P.info? t with|some i=>pure i|none=>stuck "no such type") f) (Sem.bind (match P.info? t with|some i=>pure i|none=>stuck "no such type") f')
 cases hi:P.info? t with
 |none=>exact .dead trivial
 |some i=>exact h i hi
theorem sr_underlying{t:TypeId}{f f':TypeDesc->Sem β}(h:∀d,P.underlying t=some d->SRel P F B ρ (f d) (f' d)):SRel P F B ρ (underlying t >>= f) (underlying t >>= f'):=by
 refine .program ?_;show SRel P F B ρ (Sem.bind (match P.underlying t with|some i=>pure i|none=>stuck "no such type") f) (Sem.bind (match P.underlying t with|some i=>pure i|none=>stuck "no such type") f')
 cases hi:P.underlying t with
 |none=>exact .dead trivial
 |some i=>exact h i hi
theorem sr_sizeOf{t:TypeId}{f f':Nat->Sem β}(h:∀i,P.info? t=some i->SRel P F B ρ (f i.size) (f' i.size)):SRel P F B ρ (sizeOf t >>= f) (sizeOf t >>= f'):=by
 unfold sizeOf;rw[bind_assoc,bind_assoc];exact zQ fun i hi=>h i hi
theorem sr_zero{t:TypeId}(hz:ZGr P t){f f':Value->Sem β}(h:∀v,Gr v->SRel P F B ρ (f v) (f' v)):SRel P F B ρ (zeroValue t >>= f) (zeroValue t >>= f'):=by
 unfold zeroValue;rw[bind_assoc,bind_assoc];refine zQ fun i hi=>?_;cases hv:i.zero with
 |none=>exact .dead trivial
 |some v=>exact h v (hz i v hi hv)
theorem zad{t:TypeId}{f f':Bool->Sem β}(h:∀b,SRel P F B ρ (f b) (f' b)):SRel P F B ρ (isAgg t >>= f) (isAgg t >>= f'):=by
 unfold isAgg;rw[bind_assoc,bind_assoc];refine sr_underlying fun d _=>?_;cases d<;>exact h _
theorem sr_elemOf{t:TypeId}{f f':TypeId->Sem β}(h:∀e,SRel P F B ρ (f e) (f' e)):SRel P F B ρ (elemOf t >>= f) (elemOf t >>= f'):=by
 unfold elemOf;rw[bind_assoc,bind_assoc];refine sr_underlying fun d _=>?_;cases d<;>first|exact h _|exact .dead trivial
theorem sr_typeStr{t:TypeId}{f f':String->Sem β}(h:∀e,SRel P F B ρ (f e) (f' e)):SRel P F B ρ (typeStr t >>= f) (typeStr t >>= f'):=by
 unfold typeStr;rw[bind_assoc,bind_assoc];refine zQ fun d _=>?_;dsimp only;by_cases hs:d.str.isEmpty=true
 ·rw[if_pos hs];exact .dead trivial
 ·rw[if_neg hs];exact h _
theorem ju{x x':Value}(hx:VRel F ρ x x'){f f':IntKind×Int->Sem β}(h:∀k n,x= .int k n->x'= .int k n->SRel P F B ρ (f (k,n)) (f' (k,n))):SRel P F B ρ (asIntOf x >>= f) (asIntOf x' >>= f'):=by
 cases hx<;>first|exact h _ _ rfl rfl|exact .dead trivial|(rename_i a a' ha;cases ha<;>exact .dead trivial)
theorem sr_asInt{x x':Value}(hx:VRel F ρ x x'){f f':Int->Sem β}(h:∀n,SRel P F B ρ (f n) (f' n)):SRel P F B ρ (asInt x >>= f) (asInt x' >>= f'):=by
 unfold asInt;rw[bind_assoc,bind_assoc];exact ju hx fun k n _ _=>h n
theorem zdF{x x':Value}(hx:VRel F ρ x x'){f f':Bool->Sem β}(h:∀b,SRel P F B ρ (f b) (f' b)):SRel P F B ρ (asBool x >>= f) (asBool x' >>= f'):=by
 cases hx<;>first|exact h _|exact .dead trivial
theorem sr_asAgg{x x':Value}(hx:VRel F ρ x x'){f f':Array Value->Sem β}(h:∀c c',VsRel F ρ c c'->SRel P F B ρ (f c) (f' c')):SRel P F B ρ (asAgg x >>= f) (asAgg x' >>= f'):=by
 cases hx<;>first|exact .dead trivial|(rename_i n k;exact h _ _ ⟨n,k⟩)
theorem sr_sureAddr{x x':Value}(hx:VRel F ρ x x'){f f':Addr->Sem β}(h:∀a a',ARel ρ a a'->SRel P F B ρ (f a) (f' a')):SRel P F B ρ (Instr.sureAddr x >>= f) (Instr.sureAddr x' >>= f'):=by
 cases hx<;>first|exact .dead trivial|(rename_i ha;cases ha<;>first|exact .dead trivial|(rename_i k;exact h _ _ k))
theorem sr_newRow{e:TypeId}{c c':Array Value}(hc:VsRel F ρ c c'){f f':Addr->Sem β}(h:∀r r',SRel P F B (addR ρ r r') (f ⟨r,0,none⟩) (f' ⟨r',0,none⟩)):SRel P F B ρ (newRow e c >>= f) (newRow e c' >>= f'):=by
 unfold newRow newObj;exact .new (.cells e _ hc) (by simp[isChan,Obj.isChan]) fun r r'=>h r r'
theorem qG(r r':Nat)(o:Nat):ARel (addR ρ r r') ⟨r,o,none⟩ ⟨r',o,none⟩:=⟨.inr ⟨rfl,rfl⟩,rfl,rfl⟩
theorem kX{e:TypeId}{v v':Value}(hv:VRel F ρ v v'){f f':Addr->Sem β}(h:∀r r',SRel P F B (addR ρ r r') (f ⟨r,0,none⟩) (f' ⟨r',0,none⟩)):SRel P F B ρ (newVar e v >>= f) (newVar e v' >>= f'):=sr_newRow hv.cells h
def zfJ:RuntimeError->Prop
 | .typeAssertion .. | .unhashable _=>False
 |_=>True
theorem zv{e:RuntimeError}(he:zfJ e):SRel P F A ρ (runtimePanic e) (runtimePanic e):=by
 unfold runtimePanic;refine sr_program ?_;cases e with
 |bounds x y s c=>exact .panic (.iface _ (.aggs (((VsRel.empty.push (.int _ _)).push (.int _ _)).push (.bool _) |>.push (.int _ _))))
 |error m=>exact .panic (.iface _ (.string _))
 |plain m=>exact .panic (.iface _ (.string _))
 |nilDeref=>exact .panic (.iface _ (.string _))
 |typeAssertion=>exact he.elim
 |panicNil=>exact sr_elemOf fun e=>kX (.aggs .empty) fun r r'=> .panic (.iface _ (.pointer (.some (qG r r' 0))))
 |unhashable=>exact he.elim
theorem xh(k:IntKind)(x y:Int)(c:BoundsCode):SRel P F A ρ (boundsPanic k x y c) (boundsPanic k x y c):=by
 unfold boundsPanic;have tail:∀(s:Bool),SRel P F A ρ (runtimePanic (.bounds (IntKind.i64.wrap x) y s c)) (runtimePanic (.bounds (IntKind.i64.wrap x) y s c)):=fun s=>zv trivial;split
 ·exact .choose fun s=>tail _
 ·exact tail _
theorem jF{a a':Addr}:∀(n i:Nat) {acc acc':Array Value} {ρ:Rn},ARel ρ a a'->VsRel F ρ acc acc'->SRel P F (fun ρ v v'=>VsRel F ρ v v') ρ (loadCellsFrom a i n acc) (loadCellsFrom a' i n acc')
 |0,i,acc,acc',ρ,ha,hc=> .pure hc
 |n+1,i,acc,acc',ρ,ha,hc=> .load (ha.add i) fun v v' hv=>jF n (i+1) ha (hc.push hv)
theorem jG{a a':Addr}(ha:ARel ρ a a')(n:Nat):SRel P F (fun ρ v v'=>VsRel F ρ v v') ρ (loadCells a n) (loadCells a' n):=jF n 0 ha .empty
theorem uI{a a':Addr}(ha:ARel ρ a a')(t:TypeId):SV P F ρ (loadVar t a) (loadVar t a'):=by
 unfold loadVar;refine zad fun b=>?_;cases b
 ·exact .load ha fun v v' hv=> .pure hv
 ·exact sr_sizeOf fun i _=>(jG ha _).bind fun ρ₁ _ c c' hc=> .pure (.aggs hc)
theorem kO{a a':Addr}:∀(l l':List Value) (i:Nat) {ρ:Rn},ARel ρ a a'->l.length=l'.length->(∀(j:Nat) v v',l[j]? =some v->l'[j]? =some v'->VRel F ρ v v')->
 SE P F ρ (storeCells a l i) (storeCells a' l' i)
 |[],[],i,ρ,ha,hl,h=> .pure rfl
 |v::l,v'::l',i,ρ,ha,hl,h=>by
  unfold storeCells;exact .store (ha.add i) (h 0 v v' rfl rfl) (kO l l' (i+1) ha (by simpa using hl) fun j x x' h1 h2=>h (j+1) x x' (by simpa using h1) (by simpa using h2))
theorem j7{a a':Addr}(ha:ARel ρ a a'){c c':Array Value}(hc:VsRel F ρ c c')(i:Nat):SE P F ρ (storeCells a c.toList i) (storeCells a' c'.toList i):=
 kO _ _ i ha (by simpa using hc.size) fun j v v' h1 h2=>hc.all j v v' (by simpa using h1) (by simpa using h2)
theorem za6{a a':Addr}(ha:ARel ρ a a')(t:TypeId){v v':Value}(hv:VRel F ρ v v'):SE P F ρ (storeVar t a v) (storeVar t a' v'):=by
 unfold storeVar;refine sr_sizeOf fun i _=>?_;rw[hv.cells.size];dsimp only;by_cases h:v'.cells.size≠i.size
 ·rw[if_pos h,if_pos h];exact .dead trivial
 ·rw[if_neg h,if_neg h];exact j7 ha hv.cells 0
theorem xD{c c':Array Value}(hc:VsRel F ρ c c')(t:TypeId)(off:Nat):SV P F ρ (part t c off) (part t c' off):=by
 unfold part;refine zad fun b=>?_;cases b
 ·have:=hc.get off
  simp only[Bool.false_eq_true,if_false];generalize c[off]? =x,c'[off]? =y at this;cases this with
  |none=>exact .dead trivial
  |some h=>exact .pure h
 ·exact sr_sizeOf fun i _=> .pure (.aggs (hc.extract _ _))
theorem jm{γ σ:Type}{f f':γ->σ->Sem (ForInStep σ)}:∀(l:List γ) {ρ:Rn} (b:σ),(∀ρ₁,Ext ρ ρ₁->∀a b,SE P F ρ₁ (f a b) (f' a b))->SE P F ρ (forIn l b f) (forIn l b f')
 |[],ρ,b,h=>by rw[List.forIn_nil,List.forIn_nil];exact .pure rfl
 |a::l,ρ,b,h=>by
  rw[List.forIn_cons,List.forIn_cons];refine(h ρ (Ext.refl _) a b).eqs fun ρ₁ h₁ s=>?_;cases s with
  |done b=>exact .pure rfl
  |yield b=>exact jm l b fun ρ₂ h₂=>h ρ₂ (h₁.trans h₂)
theorem kh{σ:Type}{f f':Nat->σ->Sem (ForInStep σ)}(r:Std.Legacy.Range)(b:σ)(h:∀ρ₁,Ext ρ ρ₁->∀a b,SE P F ρ₁ (f a b) (f' a b)):SE P F ρ (forIn r b f) (forIn r b f'):=by
 rw[Std.Legacy.Range.forIn_eq_forIn_range',Std.Legacy.Range.forIn_eq_forIn_range'];exact jm _ _ h
theorem ki{γ σ:Type}{f f':γ->σ->Sem (ForInStep σ)}(l:Array γ)(b:σ)(h:∀ρ₁,Ext ρ ρ₁->∀a b,SE P F ρ₁ (f a b) (f' a b)):SE P F ρ (forIn l b f) (forIn l b f'):=by
 rw[<-Array.forIn_toList,<-Array.forIn_toList];exact jm _ _ h
theorem vf{γ σ:Type}{f:γ->Sem σ}:∀(l:List γ) {ρ:Rn},(∀ρ₁,Ext ρ ρ₁->∀a,SE P F ρ₁ (f a) (f a))->SE P F ρ (l.mapM f) (l.mapM f)
 |[],ρ,h=>by rw[List.mapM_nil];exact .pure rfl
 |a::l,ρ,h=>by
  rw[List.mapM_cons];refine(h ρ (Ext.refl _) a).eqs fun ρ₁ h₁ s=>?_;refine(vf l fun ρ₂ h₂=>h ρ₂ (h₁.trans h₂)).eqs fun ρ₂ h₂ s=>?_;exact .pure rfl
theorem gJ{γ σ:Type}{f:γ->Sem σ}(l:Array γ)(h:∀ρ₁,Ext ρ ρ₁->∀a,SE P F ρ₁ (f a) (f a)):SE P F ρ (l.mapM f) (l.mapM f):=by
 rw[Array.mapM_eq_mapM_toList];show SE P F ρ ((l.toList.mapM f) >>= fun x=>pure x.toArray) ((l.toList.mapM f) >>= fun x=>pure x.toArray);exact(vf _ h).eqs fun _ _ _=> .pure rfl
def qI(F:FuncId->Prop)(ρ:Rn):List (Nat×Value)->List (Nat×Value)->Prop
 |[],[]=>True
 |(i,v)::l,(i',v')::l'=>i=i'/\VRel F ρ v v'/\qI F ρ l l'
 |_,_=>False
theorem gq{ps:Array (Nat×Operand)}{e e':Operand->Value}(h:∀x∈ps.toList,VRel F ρ (e x.2) (e' x.2)):qI F ρ ((ps.map fun(i,x)=>(i,e x)).toList) ((ps.map fun(i,x)=>(i,e' x)).toList):=by
 obtain⟨l⟩:=ps
 simp only[List.map_toArray];induction l with
 |nil=>trivial
 |cons x l ih=>exact⟨rfl,h x (by simp),ih fun y hy=>h y (by simp at hy⊢;exact .inr hy)⟩
theorem uE:∀(l l':List (Value×Nat)) (off:Nat) {c c':Array Value},VsRel F ρ c c'->l.length=l'.length->(∀(j:Nat) x x',l[j]? =some x->l'[j]? =some x'->VRel F ρ x.1 x'.1/\x.2=x'.2)->
 VsRel F ρ (l.foldl (fun cs x=>cs.setIfInBounds (off+x.2) x.1) c) (l'.foldl (fun cs x=>cs.setIfInBounds (off+x.2) x.1) c')
 |[],[],off,c,c',hc,hl,h=>hc
 |x::l,x'::l',off,c,c',hc,hl,h=>by
  have⟨h1,h2⟩:=h 0 x x' rfl rfl
  rw[List.foldl_cons,List.foldl_cons];refine uE l l' off ?_ (by simpa using hl) fun j y y' k1 k2=>h (j+1) y y' (by simpa using k1) (by simpa using k2)
  rw[h2];exact hc.set _ h1
theorem zaB(place:Nat->Option (Nat×Nat)):∀(l l':List (Nat×Value)) {c c':Array Value},qI F ρ l l'->VsRel F ρ c c'->OpRel (VsRel F ρ) (Instr.fill place c l) (Instr.fill place c' l')
 |[],[],c,c',hl,hc=> .some hc
 |(i,v)::l,(i',v')::l',c,c',hl,hc=>by
  obtain⟨rfl,hv,hl⟩:=hl
  unfold Instr.fill;cases place i with
  |none=>exact .none
  |some x=>
   obtain⟨off,size⟩:=x
   dsimp only;rw[hv.cells.size,hc.size];split
   ·exact .none
   ·rw[<-Array.foldl_toList,<-Array.foldl_toList];refine zaB place l l' hl (uE _ _ _ hc (by simp[hv.cells.size]) fun j x x' h1 h2=>?_)
    rw[Array.getElem?_toList,Array.getElem?_zipIdx] at h1 h2;obtain⟨a,ha,rfl⟩:=Option.map_eq_some_iff.1 h1
    obtain⟨b,hb,rfl⟩:=Option.map_eq_some_iff.1 h2
    exact⟨hv.cells.all j a b ha hb,rfl⟩
 |[],_::_,c,c',hl,hc=>hl.elim
 |_::_,[],c,c',hl,hc=>hl.elim
theorem sr_fill{place:Nat->Option (Nat×Nat)}{l l':List (Nat×Value)}{c c':Array Value}(hl:qI F ρ l l')(hc:VsRel F ρ c c'){m:String}{f f':Array Value->Sem β}
 (h:∀c c',VsRel F ρ c c'->SRel P F B ρ (f c) (f' c')):SRel P F B ρ (match Instr.fill place c l with|some cells=>f cells|_=>stuck m) (match Instr.fill place c' l' with|some cells=>f' cells|_=>stuck m):=by
 have:=zaB place l l' hl hc
 generalize Instr.fill place c l=x,Instr.fill place c' l'=y at this;cases this with
 |none=>exact .dead trivial
 |some k=>exact h _ _ k
theorem zfv{t:TypeId}(hz:ZGr P t){ps ps':Array (Nat×Value)}(hp:qI F ρ ps.toList ps'.toList):SV P F ρ (Instr.build t ps) (Instr.build t ps'):=by
 unfold Instr.build;refine sr_zero hz fun v hv=>?_;refine sr_underlying fun d _=>?_;cases d<;>first|exact .dead trivial|skip
 ·exact sr_sizeOf fun i _=>sr_fill hp (hv F ρ).cells fun c c' hc=> .pure (.aggs hc)
 ·refine(gJ _ fun ρ₁ _ a=>?_).bind fun ρ₁ h₁ x x' e=>?_
  ·exact sr_sizeOf fun i _=> .pure rfl
  ·subst e;have hp':qI F ρ₁ ps.toList ps'.toList:=by
    have:∀(l l':List (Nat×Value)),qI F ρ l l'->qI F ρ₁ l l':=by
     intro l;induction l with
     |nil=>intro l' h;cases l'<;>first|trivial|exact h.elim
     |cons x l ih=>intro l' h;cases l' with
      |nil=>exact h.elim
      |cons x' l'=>exact⟨h.1,h.2.1.mono h₁,ih l' h.2.2⟩
    exact this _ _ hp
   exact sr_fill hp' (hv F ρ₁).cells fun c c' hc=> .pure (.aggs hc)
theorem zga{v:Value}(h:Gr v)(F:FuncId->Prop)(ρ:Rn):VsRel F ρ v.cells v.cells:=(h F ρ).cells
theorem vsRel_each{c:Array Value}(h:∀v∈c,VRel F ρ v v):VsRel F ρ c c:=⟨rfl,fun i v v' h1 h2=>by
 rw[h1] at h2;cases h2;exact h v (Array.mem_of_getElem? h1)⟩
theorem vr_bang{z:Array Value}(h:VsRel F ρ z z)(i:Nat):VRel F ρ z[i]! z[i]! :=by
 rw[getElem!_def];have:=h.get i
 generalize z[i]? =x at this;cases this with
 |none=>exact .bool _
 |some h=>exact h
theorem vsRel_tile{z:Array Value}(h:VsRel F ρ z z)(n:Nat):VsRel F ρ ((Array.range n).map (z[· % z.size]!)) ((Array.range n).map (z[· % z.size]!)):=by
 refine vsRel_each fun v hv=>?_;obtain⟨i,_,rfl⟩:=Array.mem_map.1 hv
 exact vr_bang h _
theorem psRel_mono{ρ₁:Rn}(h₁:Ext ρ ρ₁):∀{l l':List (Nat×Value)},qI F ρ l l'->qI F ρ₁ l l'
 |[],[],_=>trivial
 |_::_,_::_,h=>⟨h.1,h.2.1.mono h₁,psRel_mono h₁ h.2.2⟩
 |[],_::_,h=>h.elim
 |_::_,[],h=>h.elim
theorem gI{t:TypeId}(hz:∀e,P.underlying t=some (.slice e)->ZGr P e)(n:Nat){ps ps':Array (Nat×Value)}(hp:qI F ρ ps.toList ps'.toList):SV P F ρ (Instr.buildSlice t n ps) (Instr.buildSlice t n ps'):=by
 unfold Instr.buildSlice;refine sr_underlying fun d hd=>?_;cases d<;>first|exact .dead trivial|skip
 rename_i e;refine sr_sizeOf fun i _=>?_;dsimp only;have tail:∀{ρ₁:Rn},Ext ρ ρ₁->∀z:Array Value,VsRel F ρ₁ z z->SV P F ρ₁ (match Instr.fill (fun j=>some (j*i.size,i.size)) ((Array.range (n*i.size)).map (z[· % z.size]!)) ps.toList with|some cells=>(do pure (.slice (some (<-newRow e cells)) n n):Sem Value)|_=>stuck "buildSlice: a part of the wrong size")
  (match Instr.fill (fun j=>some (j*i.size,i.size)) ((Array.range (n*i.size)).map (z[· % z.size]!)) ps'.toList with|some cells=>(do pure (.slice (some (<-newRow e cells)) n n):Sem Value)|_=>stuck "buildSlice: a part of the wrong size"):=by
  intro ρ₁ h₁ z hz';exact sr_fill (psRel_mono h₁ hp) (vsRel_tile hz' _) fun c c' hc=>sr_newRow hc fun r r'=> .pure (.slice _ _ (.some (qG r r' 0)))
 split
 ·exact .dead (by simp[deadHalt])
 ·split
  ·exact tail (Ext.refl _) #[] .empty
  ·exact sr_zero (hz e hd) fun v hv=>tail (Ext.refl _) v.cells (hv F ρ).cells
end
section
variable {P:Program} {F:FuncId->Prop} {ρ:Rn} {α β:Type} {A:Rn->α->α->Prop} {B:Rn->β->β->Prop}
theorem SRel.nones{γ:Type}{s s':Sem (Option γ)}(h:SRel P F (fun _ a a'=>a=none/\a'=none) ρ s s'){f f':Option γ->Sem β}(hf:∀ρ₁,Ext ρ ρ₁->SRel P F B ρ₁ (f none) (f' none)):SRel P F B ρ (s >>= f) (s' >>= f'):=
 h.bind fun ρ₁ h₁ a a' e=>by rw[e.1,e.2];exact hf ρ₁ h₁
theorem ge{r r':Nat}(hr:ρ r r'):SRel P F (fun _ a a'=>a=none/\a'=none) ρ (viewAt r) (viewAt r'):=by
 unfold viewAt;refine .shape hr fun s=>?_;cases s with
 |some x=>exact .pure ⟨rfl,rfl⟩
 |none=>
  refine .look hr fun o o' ho hn=>?_;cases ho with
  |cells e f h=>exact absurd rfl (hn _ _ _)
  |chan=>exact .pure ⟨rfl,rfl⟩
  |number=>exact .pure ⟨rfl,rfl⟩
theorem vV{r r':Nat}(hr:ρ r r'):SRel P F (fun ρ a a'=>OpRel (fun x y:Addr×Bool=>ARel ρ x.1 y.1/\x.2=y.2) a a') ρ (numberAt r) (numberAt r'):=by
 unfold numberAt;refine .shape hr fun s=>?_;cases s with
 |some x=>exact .pure .none
 |none=>
  refine .look hr fun o o' ho hn=>?_;cases ho with
  |cells e f h=>exact absurd rfl (hn _ _ _)
  |chan=>exact .pure .none
  |number l h=>exact .pure (.some ⟨h,rfl⟩)
theorem sr_behind{a a':Addr}(ha:ARel ρ a a'):SRel P F (fun ρ x y=>ARel ρ x.1 y.1/\x.2=y.2) ρ (behindNumber a) (behindNumber a'):=by
 unfold behindNumber;refine(vV ha.block).bind fun ρ₁ h₁ x y h=> .pure ?_;cases h with
 |none=>exact⟨ha.mono h₁,rfl⟩
 |some h=>exact h
theorem za7{a a':Addr}(ha:ARel ρ a a')(l:Bool):SV P F ρ (asNumber a l) (asNumber a' l):=by
 unfold asNumber newObj;exact .new (.number l ha) (by simp[isChan,Obj.isChan]) fun r r'=> .pure (.pointer (.some (qG r r' 0)))
theorem ve{a a':Addr}(ha:ARel ρ a a'):SE P F ρ (noView a) (noView a'):=by
 unfold noView;exact(ge ha.block).nones fun ρ₁ h₁=> .pure rfl
theorem jh{a a':Addr}(ha:ARel ρ a a'):SE P F ρ (frozen a) (frozen a'):= .frozen ha fun s=> .pure rfl
theorem se_shape{r r':Nat}(hr:ρ r r'):SE P F ρ (shape r) (shape r'):= .shape hr fun s=> .pure rfl
theorem vd{a a':Addr}(ha:ARel ρ a a'):SE P F ρ (stringish a) (stringish a'):=by
 unfold stringish;refine(jh ha).eqs fun ρ₁ h₁ b=>?_;cases b
 ·refine(se_shape (h₁ _ _ ha.block)).eqs fun ρ₂ h₂ s=>?_;cases s with
  |none=>exact .pure rfl
  |some x=>exact jh ⟨h₂ _ _ (h₁ _ _ ha.block),rfl,rfl⟩
 ·exact .pure rfl
theorem zbS{a a':Addr}(ha:ARel ρ a a'):SE P F ρ (do pure ((<-shape a.block) matches some (_,0)):Sem Bool) (do pure ((<-shape a'.block) matches some (_,0)):Sem Bool):=
 (se_shape ha.block).eqs fun _ _ s=> .pure rfl
theorem zbe{a a' b b':Addr}(ha:ARel ρ a a')(hb:ARel ρ b b'):SE P F ρ (mayBeOne a b) (mayBeOne a' b'):=by
 unfold mayBeOne;dsimp only;refine(vd ha).eqs fun ρ₁ h₁ x=>?_;refine(vd (hb.mono h₁)).eqs fun ρ₂ h₂ y=>?_;refine(zbS ((ha.mono h₁).mono h₂)).eqs fun ρ₃ h₃ z=>?_;refine(zbS (((hb.mono h₁).mono h₂).mono h₃)).eqs fun ρ₄ h₄ u=>?_;exact .pure rfl
theorem uv(h1:One P.globals.size ρ){a a' b b':Addr}(ha:ARel ρ a a')(hb:ARel ρ b b'):(a==b)=(a'==b'):=by
 have e:(a=b)↔(a'=b'):=by
  obtain⟨x,o,s⟩:=a;obtain⟨x',o',s'⟩:=a';obtain⟨y,p,t⟩:=b;obtain⟨y',p',t'⟩:=b'
  have:=h1.inj _ _ _ _ ha.block hb.block
  have e1:=ha.off;have e2:=hb.off;have e3:=ha.spot;have e4:=hb.spot;simp only at this e1 e2 e3 e4
  subst e1;subst e2;subst e3;subst e4
  simp only[Addr.mk.injEq,this]
 by_cases h:a=b
 ·simp[h,e.1 h]
 ·have h':¬a'=b':=fun k=>h (e.2 k);rw[beq_eq_false_iff_ne.2 h,beq_eq_false_iff_ne.2 h']
theorem jX(h1:One P.globals.size ρ){a a' b b':Addr}(ha:ARel ρ a a')(hb:ARel ρ b b'):(a.block==b.block)=(a'.block==b'.block):=by
 have e:=h1.inj _ _ _ _ ha.block hb.block;by_cases h:a.block=b.block
 ·simp[h,e.1 h]
 ·have h':¬a'.block=b'.block:=fun k=>h (e.2 k);rw[beq_eq_false_iff_ne.2 h,beq_eq_false_iff_ne.2 h']
theorem se_sameAddr{a a' b b':Addr}(ha:ARel ρ a a')(hb:ARel ρ b b'):SE P F ρ (sameAddr a b) (sameAddr a' b'):=by
 refine .use fun h1=>?_;unfold sameAddr;rw[jX h1 ha hb];cases (a'.block==b'.block)
 ·refine(jh ha).eqs fun ρ₁ h₁ x=>?_;refine(jh (hb.mono h₁)).eqs fun ρ₂ h₂ y=>?_;have ha2:=(ha.mono h₁).mono h₂;have hb2:=(hb.mono h₁).mono h₂;cases x<;>cases y
  case true.true=>exact SRel.dead (h:= .unsupported .addressObserved) trivial
  all_goals
   refine(ve ha2).eqs fun ρ₃ h₃ _=>?_;refine(ve (hb2.mono h₃)).eqs fun ρ₄ h₄ _=>?_;refine(zbe ((ha2.mono h₃).mono h₄) ((hb2.mono h₃).mono h₄)).eqs fun ρ₅ h₅ b=>?_;cases b
   ·exact .pure rfl
   ·exact .choose fun n=> .pure rfl
 ·rw[uv h1 ha hb];exact .pure rfl
theorem wJ{a a' b b':Option Addr}(ha:OpRel (ARel ρ) a a')(hb:OpRel (ARel ρ) b b'):SE P F ρ (samePointer a b) (samePointer a' b'):=by
 cases ha<;>cases hb<;>first|exact .pure rfl|(rename_i x y;first|exact se_sameAddr ‹_› ‹_›)
theorem se_byteOf{a a':Addr}(ha:ARel ρ a a'):SE P F ρ (byteOf a) (byteOf a'):=by
 unfold byteOf;rw[ha.spot,ha.off];cases a'.spot with
 |some s=>exact .pure rfl
 |none=>
  refine sr_program ?_;refine(ve ha).eqs fun ρ₁ h₁ _=>?_;refine(se_shape (h₁ _ _ ha.block)).eqs fun ρ₂ h₂ s=>?_;cases s with
  |none=>exact .dead trivial
  |some x=>
   obtain⟨e,n⟩:=x
   dsimp only;split
   ·exact .pure rfl
   ·split
    ·exact .pure rfl
    ·exact .dead trivial
theorem ziY(h1:One P.globals.size ρ){a a':Addr}(ha:ARel ρ a a'):decide (a.block<P.globals.size)=decide (a'.block<P.globals.size):=decide_eq_decide.2 (h1.low _ _ ha.block)
theorem SRel.dead_of{s s':Sem α}{h:Halt}(hh:deadHalt h)(e:s= .halt h):SRel P F A ρ s s':=by rw[e];exact .dead hh
theorem gi:∀(d:Nat) (t:TypeId) {ρ:Rn} {cs:Array Value} {x' y y':Value},SE P F ρ (Op.equalIn d t (.tuple cs) y) (Op.equalIn d t x' y')
 |0,t,ρ,cs,x',y,y'=> .dead (by simp[deadHalt])
 |d+1,t,ρ,cs,x',y,y'=>by
  unfold Op.equalIn;refine sr_underlying fun k _=>?_;cases k<;>first|exact .dead trivial|(cases y<;>exact .dead trivial)|skip
  all_goals (cases y<;>first|exact .dead trivial|skip)
  all_goals first|(rename_i z;cases z<;>exact .dead trivial)|(rename_i a n m;cases a<;>cases n<;>cases m<;>exact .dead trivial)
theorem se_equalR:∀(d:Nat) (t:TypeId) {ρ:Rn} {cs:Array Value} {x x' y':Value},SE P F ρ (Op.equalIn d t x (.tuple cs)) (Op.equalIn d t x' y')
 |0,t,ρ,cs,x,x',y'=> .dead (by simp[deadHalt])
 |d+1,t,ρ,cs,x,x',y'=>by
  unfold Op.equalIn;refine sr_underlying fun k _=>?_;cases k<;>first|exact .dead trivial|(cases x<;>exact .dead trivial)|skip
  all_goals (cases x<;>first|exact .dead trivial|skip)
  all_goals first|(rename_i z;cases z<;>exact .dead trivial)|(rename_i a n m;cases a<;>cases n<;>cases m<;>exact .dead trivial)
theorem se_equalIn:∀(d:Nat) (t:TypeId) {ρ:Rn} {x x' y y':Value},VRel F ρ x x'->VRel F ρ y y'->SE P F ρ (Op.equalIn d t x y) (Op.equalIn d t x' y')
 |0,t,ρ,x,x',y,y',hx,hy=> .dead (by simp[deadHalt])
 |d+1,t,ρ,x,x',y,y',hx,hy=>by
  unfold Op.equalIn;refine sr_underlying fun k _=>?_;cases k<;>cases hx<;>first|exact .dead trivial|skip
  all_goals (cases hy<;>first|exact .dead trivial|skip)
  all_goals try (cases ‹OpRel (ARel ρ) _ _›)
  all_goals try (cases ‹OpRel (ARel ρ) _ _›)
  all_goals try first|exact .dead trivial|exact .pure rfl
  all_goals try (cases ‹OpRel ρ _ _›)
  all_goals try (cases ‹OpRel ρ _ _›)
  all_goals try first|exact .dead trivial|exact .pure rfl
  case int.int.int=>
   dsimp only;split
   ·exact .pure rfl
   ·exact .dead trivial
  case int.int.pointer.some k1 k2 n a a' ha=>
   by_cases h:n=0
   ·subst h;exact .pure rfl
   ·refine SRel.dead_of (h:= .unsupported .addressObserved) trivial ?_
    split<;>first|rfl|simp_all
  case int.pointer.int.some k1 k2 n a a' ha=>
   by_cases h:n=0
   ·subst h;exact .pure rfl
   ·refine SRel.dead_of (h:= .unsupported .addressObserved) trivial ?_
    split<;>first|rfl|simp_all
  case int.pointer.pointer.some.some k b b' hb a a' ha=>
   dsimp only;refine(sr_behind ha).bind fun ρ₁ h₁ x x' hx=>?_;refine(sr_behind (hb.mono h₁)).bind fun ρ₂ h₂ y y' hy=>?_;have hx:=hx.1.mono h₂;have hy:=hy.1;refine .use fun h1=>?_
   skip
   refine sr_program ?_;rw[jX h1 hx hy,ziY h1 hx];split
   ·refine(se_byteOf hx).eqs fun ρ₃ h₃ u=>(se_byteOf (hy.mono h₃)).eqs fun ρ₄ h₄ v=> .pure rfl
   ·refine zQ fun i _=>?_;rw[uv h1 hx hy];split
    ·split
     ·exact .pure rfl
     ·exact .dead trivial
    ·exact .dead trivial
  case unsafePointer.pointer.pointer.some.some=>exact wJ (.some ‹_›) (.some ‹_›)
  case pointer.pointer.pointer.some.some e b b' hb a a' ha=>
   dsimp only;refine sr_sizeOf fun i _=>?_;refine .use fun h1=>?_;rw[uv h1 ha hb];split
   ·exact se_sameAddr ha hb
   ·split
    ·exact .pure rfl
    ·exact .choose fun n=> .pure rfl
  case chan.chan.chan.some.some d e b b' hb a a' ha=>
   refine .use fun h1=> .pure ?_;have:=h1.inj _ _ _ _ ha hb
   by_cases e:a=b
   ·simp[e,this.1 e]
   ·have e':¬a'=b':=fun k=>e (this.2 k);have q1:(some a==some b)=false:=by simp[e]
    have q2:(some a'==some b')=false:=by simp[e']
    rw[q1,q2]
  case interface.iface.iface ms tx v v' hv ty u u' hu=>
   dsimp only;split
   ·exact .pure rfl
   ·refine zQ fun i _=>?_;split
    ·refine sr_program (sr_program ?_)
     skip
     split
     ·exact SRel.dead (h:= .unsupported _) (by simp[deadHalt])
     ·exact sr_typeStr fun s=>zv trivial
    ·exact se_equalIn d tx hv hu
  case interface.iface.far ms tx v v' hv ty b o ht=>
   dsimp only;split
   ·exact .pure rfl
   ·refine zQ fun i _=>?_;split
    ·refine sr_program (sr_program ?_)
     skip
     split
     ·exact SRel.dead (h:= .unsupported _) (by simp[deadHalt])
     ·exact sr_typeStr fun s=>zv trivial
    ·exact se_equalR d tx
  case interface.far.iface ms tx b o ht ty u u' hu=>
   dsimp only;split
   ·exact .pure rfl
   ·refine zQ fun i _=>?_;split
    ·refine sr_program (sr_program ?_)
     skip
     split
     ·exact SRel.dead (h:= .unsupported _) (by simp[deadHalt])
     ·exact sr_typeStr fun s=>zv trivial
    ·exact gi d tx
  case interface.far.far ms tx b o ht ty b2 o2 ht2=>
   dsimp only;split
   ·exact .pure rfl
   ·refine zQ fun i _=>?_;split
    ·refine sr_program (sr_program ?_)
     skip
     split
     ·exact SRel.dead (h:= .unsupported _) (by simp[deadHalt])
     ·exact sr_typeStr fun s=>zv trivial
    ·exact gi d tx
  case struct.agg.agg fs cs cs' n1 h1 ds ds' n2 h2=>
   have hc:VsRel F ρ cs cs':=⟨n1,h1⟩;have hd:VsRel F ρ ds ds':=⟨n2,h2⟩;refine sr_program ?_;dsimp only;split
   ·exact SRel.dead (h:= .unsupported _) (by simp[deadHalt])
   ·refine(ki _ _ fun ρ₁ h₁ f b=>?_).eqs fun ρ₁ h₁ s=>?_
    ·split
     ·refine(xD (hc.mono h₁) _ _).bind fun ρ₂ h₂ u u' hu=>(xD ((hd.mono h₁).mono h₂) _ _).bind fun ρ₃ h₃ v v' hv=>(se_equalIn d f.type (hu.mono h₃) hv).eqs fun ρ₄ h₄ x=>?_;cases x<;>exact .pure rfl
     ·exact .pure rfl
    ·obtain⟨s,_⟩:=s
     cases s<;>exact .pure rfl
  case array.agg.agg n e _ cs cs' n1 h1 ds ds' n2 h2=>
   have hc:VsRel F ρ cs cs':=⟨n1,h1⟩;have hd:VsRel F ρ ds ds':=⟨n2,h2⟩;refine sr_sizeOf fun i _=>?_;refine(kh _ _ fun ρ₁ h₁ f b=>?_).eqs fun ρ₁ h₁ s=>?_
   ·refine(xD (hc.mono h₁) _ _).bind fun ρ₂ h₂ u u' hu=>(xD ((hd.mono h₁).mono h₂) _ _).bind fun ρ₃ h₃ v v' hv=>(se_equalIn d e (hu.mono h₃) hv).eqs fun ρ₄ h₄ x=>?_;cases x<;>exact .pure rfl
   ·obtain⟨s,_⟩:=s
    cases s<;>exact .pure rfl
theorem se_equal(t:TypeId){x x' y y':Value}(hx:VRel F ρ x x')(hy:VRel F ρ y y'):SE P F ρ (Op.equal t x y) (Op.equal t x' y'):=se_equalIn _ t hx hy
end
section
variable {P:Program} {F:FuncId->Prop} {ρ:Rn} {α β:Type} {A:Rn->α->α->Prop} {B:Rn->β->β->Prop}
theorem se_eqGuardIn:∀(d:Nat) (t:TypeId) {ρ:Rn} {x x' y y':Value},VRel F ρ x x'->VRel F ρ y y'->SE P F ρ (Op.eqGuardIn d t x y) (Op.eqGuardIn d t x' y')
 |0,t,ρ,x,x',y,y',hx,hy=> .dead (by simp[deadHalt])
 |d+1,t,ρ,x,x',y,y',hx,hy=>by
  unfold Op.eqGuardIn;refine sr_underlying fun k _=>?_;cases k<;>try exact .pure rfl
  case interface ms=>cases hx<;>cases hy<;>exact .pure rfl
  case struct fs=>
   cases hx<;>try exact .pure rfl
   rename_i cs cs' n1 h1;cases hy<;>try exact .pure rfl
   rename_i ds ds' n2 h2;have hc:VsRel F ρ cs cs':=⟨n1,h1⟩;have hd:VsRel F ρ ds ds':=⟨n2,h2⟩;refine(ki _ _ fun ρ₁ h₁ f b=>?_).eqs fun ρ₁ h₁ s=>?_
   ·split
    ·refine(xD (hc.mono h₁) _ _).bind fun ρ₂ h₂ u u' hu=>(xD ((hd.mono h₁).mono h₂) _ _).bind fun ρ₃ h₃ v v' hv=>(se_eqGuardIn d f.type (hu.mono h₃) hv).eqs fun ρ₄ h₄ x=>?_;cases x<;>exact .pure rfl
    ·exact .pure rfl
   ·obtain⟨s,_⟩:=s
    cases s<;>exact .pure rfl
  case array n e _=>
   cases hx<;>try exact .pure rfl
   rename_i cs cs' n1 h1;cases hy<;>try exact .pure rfl
   rename_i ds ds' n2 h2;have hc:VsRel F ρ cs cs':=⟨n1,h1⟩;have hd:VsRel F ρ ds ds':=⟨n2,h2⟩;refine sr_sizeOf fun i _=>?_;refine(kh _ _ fun ρ₁ h₁ f b=>?_).eqs fun ρ₁ h₁ s=>?_
   ·refine(xD (hc.mono h₁) _ _).bind fun ρ₂ h₂ u u' hu=>(xD ((hd.mono h₁).mono h₂) _ _).bind fun ρ₃ h₃ v v' hv=>(se_eqGuardIn d e (hu.mono h₃) hv).eqs fun ρ₄ h₄ x=>?_;cases x<;>exact .pure rfl
   ·obtain⟨s,_⟩:=s
    cases s<;>exact .pure rfl
theorem se_eqGuard(op:BinOp)(t:TypeId)(x y:Operand){a a' b b':Value}(ha:VRel F ρ a a')(hb:VRel F ρ b b'):SE P F ρ (eqGuard op t x y a b) (eqGuard op t x y a' b'):=by
 unfold eqGuard;generalize (!(op matches .eql| .neq))=g;cases g
 case true=>exact .pure rfl
 case false=>
  simp only[Bool.false_eq_true,if_false];cases ha<;>try exact .pure rfl
  case nilIface=>
   cases hb<;>try exact .pure rfl
   have tail:SE P F ρ (do if<-Op.eqGuardIn Op.maxDepth t .nilIface .nilIface then unsupported (.noEntry "binop/eql: two nil values of an interface type with methods, neither of them the literal nil")) (do if<-Op.eqGuardIn Op.maxDepth t .nilIface .nilIface then unsupported (.noEntry "binop/eql: two nil values of an interface type with methods, neither of them the literal nil")):=by
    refine(se_eqGuardIn _ t .nilIface .nilIface).eqs fun ρ₁ h₁ z=>?_;cases z
    ·exact .pure rfl
    ·exact SRel.dead (h:= .unsupported _) (by simp[deadHalt])
   dsimp only
   repeat' first|exact .pure rfl|exact tail|split
  case agg cs cs' n1 h1=>
   cases hb<;>try exact .pure rfl
   rename_i ds ds' n2 h2;dsimp only;refine sr_program (sr_program ?_);split
   ·exact .pure rfl
   ·refine(se_eqGuardIn _ t (.agg n1 h1) (.agg n2 h2)).eqs fun ρ₁ h₁ z=>?_;cases z
    ·exact .pure rfl
    ·exact SRel.dead (h:= .unsupported _) (by simp[deadHalt])
theorem qA{p p':Option Addr}(hp:OpRel (ARel ρ) p p'){n n':Value}(hn:VRel F ρ n n')(ts:Array TypeId)(t:TypeId):SV P F ρ (Builtin.unsafeAdd_ ts t #[.pointer p,n]) (Builtin.unsafeAdd_ ts t #[.pointer p',n']):=by
 unfold Builtin.unsafeAdd_;dsimp only;refine sr_asInt hn fun i=>?_;have neg:∀(a a':Addr),ARel ρ a a'->SV P F ρ (do
  let some (e,cells)<-shape a.block|unsupported (.unsafePointer "Add")
  let p<-program
  match cellAtBytes p p.depth e (cells / p.cellsOf e) a.off i with
  |some off=>pure (.pointer (some {a with off}))
  |none=>unsupported (.unsafePointer "Add")) (do
  let some (e,cells)<-shape a'.block|unsupported (.unsafePointer "Add")
  let p<-program
  match cellAtBytes p p.depth e (cells / p.cellsOf e) a'.off i with
  |some off=>pure (.pointer (some {a' with off}))
  |none=>unsupported (.unsafePointer "Add")):=by
  intro a a' ha;refine(se_shape ha.block).eqs fun ρ₁ h₁ s=>?_;cases s with
  |none=>exact .dead (by simp[deadHalt])
  |some x=>
   refine sr_program ?_;rw[ha.off];cases cellAtBytes P P.depth x.1 (x.2 / P.cellsOf x.1) a'.off i with
   |none=>exact .dead (by simp[deadHalt])
   |some o=>exact .pure (.pointer (.some ⟨h₁ _ _ ha.block,rfl,ha.spot⟩))
 split
 ·cases hp with
  |none=>exact SRel.dead (h:= .unsupported _) (by simp[deadHalt])
  |some ha=>
   exact(ge ha.block).nones fun ρ₁ h₁=> .pure (.pointer (.some (ha.mono h₁)))
 ·split
  ·exact SRel.dead (h:= .unsupported _) (by simp[deadHalt])
  ·cases hp with
   |none=>exact SRel.dead (h:= .unsupported _) (by simp[deadHalt])
   |some ha=>exact neg _ _ ha
theorem qL(t:TypeId){p p':Option Addr}(hp:OpRel (ARel ρ) p p'){n n':Value}(hn:VRel F ρ n n'):SV P F ρ (movedNumber t (.pointer p) n) (movedNumber t (.pointer p') n'):=by
 unfold movedNumber;refine sr_underlying fun d _=>?_;dsimp only;split
 ·exact SRel.dead (h:= .unsupported _) (by simp[deadHalt])
 ·cases hp with
  |none=>exact qA .none hn #[] t
  |some ha=>
   dsimp only;refine(sr_behind ha).bind fun ρ₁ h₁ x y hxy=>?_;obtain⟨a,l⟩:=x
   obtain⟨a',l'⟩:=y
   obtain⟨h1,h2⟩:=hxy
   simp only at h1 h2
   subst h2;dsimp only;refine(qA (.some h1) (hn.mono h₁) #[] t).bind fun ρ₂ h₂ u u' hu=>?_;cases hu with
   |pointer h=>
    cases h with
    |none=>exact .pure (.pointer .none)
    |some h=>exact za7 h l
   |bool b=>exact .pure (.bool b)
   |int k n=>exact .pure (.int k n)
   |string s=>exact .pure (.string s)
   |slice n m x=>exact .pure (.slice n m x)
   |chan x=>exact .pure (.chan x)
   |func hf n1 h1 n2 h2=>exact .pure (.func hf n1 h1 n2 h2)
   |nilFunc=>exact .pure .nilFunc
   |iface t h=>exact .pure (.iface t h)
   |far t b o ht=>exact .pure (.far t b o ht)
   |nilIface=>exact .pure .nilIface
   |agg n h=>exact .pure (.agg n h)
   |tuple n h=>exact .pure (.tuple n h)
theorem uH(t:TypeId){p p':Option Addr}(hp:OpRel (ARel ρ) p p'){n n':Value}(hn:VRel F ρ n n'):SV P F ρ (movedPointer t (.pointer p) n) (movedPointer t (.pointer p') n'):=by
 unfold movedPointer;cases hp with
 |none=>exact qA .none hn #[] t
 |some ha=>
  dsimp only;refine(vV ha.block).bind fun ρ₁ h₁ x y hxy=>?_;cases hxy with
  |none=>exact qA (.some (ha.mono h₁)) (hn.mono h₁) #[] t
  |some h=>exact SRel.dead (h:= .unsupported _) (by simp[deadHalt])
theorem k7{a a' b b':Addr}(ha:ARel ρ a a')(hb:ARel ρ b b'):SE P F ρ (Op.twoPlaces a b) (Op.twoPlaces a' b'):=by
 refine .use fun h1=>?_;unfold Op.twoPlaces;refine sr_program ?_;have e1:(a.block !=b.block)=(a'.block !=b'.block):=by unfold bne;rw[jX h1 ha hb]
 have e2:decide (a.block≥P.globals.size)=decide (a'.block≥P.globals.size):=decide_eq_decide.2 (by have:=h1.low _ _ ha.block;omega)
 dsimp only;rw[e1,e2];split
 ·exact SRel.dead (h:= .unsupported _) (by simp[deadHalt])
 ·exact(se_byteOf ha).eqs fun ρ₁ h₁ x=>(se_byteOf (hb.mono h₁)).eqs fun ρ₂ h₂ y=> .pure rfl
theorem zcs(k:IntKind){a a' b b':Addr}(ha:ARel ρ a a')(hb:ARel ρ b b'):SV P F ρ (Op.addrSub k a b) (Op.addrSub k a' b'):=by
 unfold Op.addrSub;exact(k7 ha hb).eqs fun ρ₁ h₁ x=> .pure (.int _ _)
theorem zct(op:BinOp){a a' b b':Addr}(ha:ARel ρ a a')(hb:ARel ρ b b'):SV P F ρ (Op.addrCmp op a b) (Op.addrCmp op a' b'):=by
 unfold Op.addrCmp;refine(k7 ha hb).eqs fun ρ₁ h₁ x=>?_;obtain⟨x,y⟩:=x
 cases op<;>first|exact .pure (.bool _)|exact .dead (by simp[deadHalt])
theorem sr_addrMod(k:IntKind){a a':Addr}(ha:ARel ρ a a')(n:Int):SV P F ρ (Op.addrMod k a n) (Op.addrMod k a' n):=by
 unfold Op.addrMod;refine(se_shape ha.block).eqs fun ρ₁ h₁ s=>?_;cases s with
 |none=>exact .dead (by simp[deadHalt])
 |some x=>
  refine zQ fun i _=>?_;dsimp only;split
  ·exact SRel.dead (h:= .unsupported _) (by simp[deadHalt])
  ·exact(se_byteOf (ha.mono h₁)).eqs fun ρ₂ h₂ y=> .pure (.int _ _)
theorem sr_stringOp(op:BinOp)(x y:ByteArray):SV P F ρ (Op.stringOp op x y) (Op.stringOp op x y):=by
 unfold Op.stringOp;cases op<;>first
  |exact .pure (.bool _)
  |exact .dead (by simp[deadHalt])
  |(dsimp only;split<;>first|exact .pure (.string _)|exact .dead (by simp[deadHalt]))
theorem sr_shift(op:BinOp)(k:IntKind)(x:Int)(yk:IntKind)(y:Int):SV P F ρ (Op.shift op k x yk y) (Op.shift op k x yk y):=by
 unfold Op.shift;split
 ·exact zv trivial
 ·cases op<;>first|exact .pure (.int _ _)|exact .dead trivial
theorem sr_intArith(op:BinOp)(k:IntKind)(x y:Int):SV P F ρ (Op.intArith op k x y) (Op.intArith op k x y):=by
 unfold Op.intArith;cases op<;>first|exact .pure (.int _ _)|exact .dead trivial
theorem sr_intDiv(op:BinOp)(k:IntKind)(x y:Int):SV P F ρ (Op.intDiv op k x y) (Op.intDiv op k x y):=by
 unfold Op.intDiv;split
 ·exact zv trivial
 ·cases op<;>first|exact .pure (.int _ _)|exact .dead trivial
theorem sr_intBits(op:BinOp)(k:IntKind)(x y:Int):SV P F ρ (Op.intBits op k x y) (Op.intBits op k x y):=by
 unfold Op.intBits;cases op<;>first|exact .pure (.int _ _)|exact .dead trivial
theorem sr_intCmp(op:BinOp)(x y:Int):SV P F ρ (Op.intCmp op x y) (Op.intCmp op x y):=by
 unfold Op.intCmp;cases op<;>first|exact .pure (.bool _)|exact .dead trivial
theorem sr_unary(op:UnOp){x x':Value}(hx:VRel F ρ x x'):SV P F ρ (Op.unary op x) (Op.unary op x'):=by
 unfold Op.unary;cases op<;>cases hx<;>first
  |exact .dead trivial
  |exact sr_intArith _ _ _ _
  |exact sr_intBits _ _ _ _
  |exact .pure (.bool _)
  |(rename_i h;cases h<;>exact .dead (by simp[deadHalt]))
theorem sr_binOp(op:BinOp)(t:TypeId){x x' y y':Value}(hx:VRel F ρ x x')(hy:VRel F ρ y y'):SV P F ρ (binOp op t x y) (binOp op t x' y'):=by
 have eqs:SV P F ρ (do pure (.bool (<-Op.equal t x y))) (do pure (.bool (<-Op.equal t x' y'))):=(se_equal t hx hy).eqs fun ρ₁ h₁ b=> .pure (.bool _)
 have neqs:SV P F ρ (do pure (.bool (!(<-Op.equal t x y)))) (do pure (.bool (!(<-Op.equal t x' y')))):=(se_equal t hx hy).eqs fun ρ₁ h₁ b=> .pure (.bool _)
 unfold binOp;cases hx<;>cases hy<;>cases op<;>first
  |exact eqs
  |exact neqs
  |exact .dead trivial
  |exact .dead (by simp[deadHalt])
  |skip
 all_goals try first
  |exact sr_stringOp _ _ _
  |exact sr_shift _ _ _ _ _
  |(dsimp only;split<;>first|exact .dead trivial|exact sr_intArith _ _ _ _|exact sr_intDiv _ _ _ _|exact sr_intBits _ _ _ _|exact sr_intCmp _ _ _;done)
 case pointer.int.add h k n=>
  refine sr_underlying fun d _=>?_;split
  ·exact uH t h (.int k n)
  ·exact qL t h (.int k n)
 case pointer.int.sub h k n=>exact qL t h (.int k (-n))
 case int.pointer.add k n _ _ h=>exact qL t h (.int k n)
 all_goals try (cases ‹OpRel (ARel ρ) _ _›)
 all_goals try (cases ‹OpRel (ARel ρ) _ _›)
 all_goals try first
  |exact .dead trivial
  |exact .dead (by simp[deadHalt])
  |(exact(sr_behind ‹_›).bind fun ρ₁ h₁ x x' hx=>sr_addrMod _ hx.1 _)
 all_goals
  rename_i hb _ _ ha;refine(sr_behind ha).bind fun ρ₁ h₁ x x' hx=>(sr_behind (hb.mono h₁)).bind fun ρ₂ h₂ y y' hy=>?_;first
   |exact zcs _ (hx.1.mono h₂) hy.1
   |exact zct _ (hx.1.mono h₂) hy.1
end
end Go.Bsd
