/- A part. -/
import Derived.Test.YtonmcakdofbjiaaGreatDoorM9
import Derived.Tactics
import Derived.Conc.FxBegin
import Derived.Test.YtonmcakdofbjiaaGreatDoorM11
import Derived.Conc.Own2
set_option linter.all false
set_option maxRecDepth 100000
set_option maxHeartbeats 8000000
namespace Go.Bsd
open Go.Conc
open Go.ConcN (sumTo)
section
variable {P:Program} {S S':Goroutine->World->Prop} {g g':Goroutine} {w w':World}
theorem Reach.trans{Fin Fin':Array Goroutine->World->Option (Nat×Nat)->Trace->Prop}{gs:Array Goroutine}{sl:Option (Nat×Nat)}{t:Trace}(h:Reach P Fin gs w sl t)
 (k:∀gs w sl t,Fin gs w sl t->Reach P Fin' gs w sl t):Reach P Fin' gs w sl t:=by
 obtain⟨N,gs1,w1,sl1,t1,h1,h2⟩:=h
 obtain⟨M,gs2,w2,sl2,t2,h3,h4⟩:=k _ _ _ _ h2
 exact⟨N+M,gs2,w2,sl2,t2,by rw[runNT_add,h1];exact h3,h4⟩
def Fits(S:Goroutine->World->Prop)(P:Program)(gs:Array Goroutine)(w:World)(_:Option (Nat×Nat))(t:Trace):Prop:=
 ∃g m,gs[0]? =some g/\g.status= .running/\zV g/\Alone P gs t m/\∃T d,S g (re w T d)
def Bes(P:Program)(S:Goroutine->World->Prop)(g:Goroutine)(w:World):Prop:=
 g.status= .running->zV g->∀(gs:Array Goroutine) (sl:Option (Nat×Nat)) (t:Trace) (m:Nat->Nat) (T:Nat->Question->Nat) (d:Nat),gs[0]? =some g->Alone P gs t m->Reach P (Fits S P) gs (re w T d) sl t
theorem Bes.bind(h:Bes P S g w)(k:∀g w,S g w->Bes P S' g w):Bes P S' g w:=by
 intro hr ht gs sl t m T d h0 hA;refine(h hr ht gs sl t m T d h0 hA).trans fun gs w sl t ⟨g,m,h0,hr,ht,hA,T,d,hS⟩=>?_;have:=k g _ hS hr ht gs sl t m w.tape w.drawn h0 hA
 exact this
theorem Bes.here(h:S g w):Bes P S g w:=fun _ ht gs sl t m T d h0 hA=>Reach.here ⟨g,m,h0,‹_›,ht,hA,w.tape,w.drawn,h⟩
theorem Bes.mono(h:Bes P S g w)(k:∀g w,S g w->S' g w):Bes P S' g w:=h.bind fun g w hs=> .here (k g w hs)
theorem Bes.tape{T:Nat->Question->Nat}{d:Nat}(h:Bes P S g w):Bes P S g (re w T d):=h
theorem zfh(hP:TameProg P):∀(n:Nat) {g:Goroutine} {w:World} {g₁:Goroutine} {w₁:World},zV g->g.status= .running->runN P n (solo g w)= .next (solo g₁ w₁)->g₁.status= .running->zV g₁:=by
 intro n;induction n with
 |zero=>
  intro g w g₁ w₁ ht hr h hr₁;simp only[runN,Stepped.next.injEq] at h;obtain⟨rfl,rfl⟩:=ye h
  exact ht
 |succ n ih=>
  intro g w g₁ w₁ ht hr h hr₁;obtain⟨g',w',k,hs,hg,_,_,_,_,h5⟩:=jy hP ht hr h hr₁
  exact ih hg hs h5 hr₁
theorem bes_lone(hP:TameProg P)(h:∀T d,∃n g' w',runN P n (solo g (re w T d))= .next (solo g' w')/\g'.status= .running/\S g' w'):Bes P S g w:=by
 intro hr ht gs sl t m T d h0 hA;have hS:yG (fun g w=>g.status= .running/\zV g/\∃T d,S g (re w T d)):=fun g w T d ⟨a,b,T',d',c⟩=>⟨a,b,T',d',c⟩;have hL:Lone P (fun g w=>g.status= .running/\zV g/\∃T d,S g (re w T d)) g w:=fun T d=>
  let ⟨n,g',w',h1,h2,h3⟩:=h T d
  ⟨n,g',w',h1,h2,h2,zfh hP n ht hr h1 h2,w'.tape,w'.drawn,h3⟩
 exact zfT hP (Fin:=Fits S P) (fun gs w sl t m g v ⟨a,b,T,d,c⟩ hw h0 hA=>⟨g,m,h0,a,b,hA,T,d,by rw[<-hw];exact c⟩) g w (jK hP hS ht hr hL) _ gs (re w T d) sl t m rfl h0 (Nat.le_refl _) hA
theorem zaK(hP:TameProg P)(hr':g'.status= .running)(hs:∀T d,step P (solo g (re w T d))= .next (solo g' (re w' T d)))(h:Bes P S g' w'):Bes P S g w:=by
 refine Bes.bind (S:=fun x v=>x=g'/\∃T d,v=re w' T d) (bes_lone hP fun T d=>⟨1,g',re w' T d,?_,hr',rfl,T,d,rfl⟩) ?_
 ·simp only[runN,hs T d]
 ·rintro x v ⟨rfl,T,d,rfl⟩;exact h.tape
theorem step_any(hP:TameProg P)(ht:zV g)(hr:g.status= .running)(hr':g'.status= .running)(hs:step P (solo g w)= .next (solo g' w)):∀T d,step P (solo g (re w T d))= .next (solo g' (re w T d)):=by
 intro T d;obtain⟨g1,w1,k,h1,h2,h3,h4,h5,h6,h7⟩:=jy hP ht hr (n:=0) (w:=w) (g₁:=g') (w₁:=w) (by simp only[runN,hs]) hr'
 rw[hs] at h5;simp only[Stepped.next.injEq] at h5;obtain⟨rfl,rfl⟩:=ye h5
 have hk:k=0:=by omega
 subst hk;exact h6 T d (fun i hi=>absurd hi (Nat.not_lt_zero i))
theorem vz(hP:TameProg P)(hr':g'.status= .running)(hs:step P (solo g w)= .next (solo g' w))(h:Bes P S g' w):Bes P S g w:=
 fun hr ht=>zaK hP hr' (step_any hP ht hr hr' hs) h hr ht
end
def ArrG(b:Frame)(k:List Item)(cs:List Frame):Exit->Act->Goroutine->Prop
 | .normal,a,g=>g=Go.Conc.G (b.at a k) cs
 | .exit id,a,g=>∃k',exitTo id k=some k'/\g=Go.Conc.G (b.at a k') cs
 | .goto l,a,g=>∃k',gotoIn l k=some k'/\g=Go.Conc.G (b.at a k') cs
 | .ret,a,g=>∃todo,g=Go.Conc.G {b.at a todo with mode:= .returning} cs
 | .panic chain,a,g=>∃todo,g=Go.Conc.G {b.at a todo with mode:= .panicking chain} cs
 | .outgrown,_,_=>False
def Lost(k:List Item):Exit->Prop
 | .exit id=>exitTo id k=none
 | .goto l=>gotoIn l k=none
 | .outgrown=>True
 |_=>False
def xd(b:Frame)(k:List Item)(cs:List Frame)(Q:Exit->Act->World->Prop)(g:Goroutine)(w:World):Prop:=
 ∃e a w',Q e a w'/\(Lost k e\/(w'=w/\ArrG b k cs e a g))
def wpB(P:Program)(c:Code)(Q:Exit->Act->World->Prop)(a:Act)(w:World):Prop:=
 ∀(b:Frame) (k:List Item) (cs:List Frame),Bes P (xd b k cs Q) (Go.Conc.G (b.at a (.code c::k)) cs) w
def yY(P:Program)(ops:Array Oper)(Q:Exit->Act->World->Prop)(l:List Oper)(a:Act)(w:World):Prop:=
 ∀(is:List Nat),is.map (ops[·]?)=l.map some->∀(b:Frame) (k:List Item) (cs:List Frame),Bes P (xd b k cs Q) (Go.Conc.G (b.at a (.inRegion ops is::k)) cs) w
def CallsB(P:Program)(f:FuncId)(args:Array Value)(w:World)(R:Ending->World->Prop):Prop:=
 ∀cs:List Frame,Bes P (fun g w'=>∃e fr,R e w'/\e≠ .outgrown/\g=Go.Conc.G fr cs/\fr.fn=f/\fr.leaving P w' e) (Go.Conc.G (Frame.enter P f args .normal) cs) w
section
variable {P:Program} {Q Q':Exit->Act->World->Prop} {a:Act} {w:World} {b:Frame} {k:List Item} {cs:List Frame}
theorem xL{fr:Frame}{e:Exit}{a':Act}{w':World}(hq:Q e a' w')(h:Arrives P (lone fr cs w) b k cs e a' w'):
 ∃n g' w'',runN P n (solo (Go.Conc.G fr cs) w)= .next (solo g' w'')/\g'.status= .running/\xd b k cs Q g' w'':=by
 have stay:Lost k e->∃n g' w'',runN P n (solo (Go.Conc.G fr cs) w)= .next (solo g' w'')/\g'.status= .running/\xd b k cs Q g' w'':=fun hl=>⟨0,_,w,rfl,rfl,e,a',w',hq, .inl hl⟩;have go:∀fr',Steps P (lone fr cs w) (lone fr' cs w')->ArrG b k cs e a' (Go.Conc.G fr' cs)->∃n g' w'',runN P n (solo (Go.Conc.G fr cs) w)= .next (solo g' w'')/\g'.status= .running/\xd b k cs Q g' w'':=
  fun fr' ⟨n,hn⟩ ha=>⟨n,_,w',hn,rfl,e,a',w',hq, .inr ⟨rfl,ha⟩⟩
 cases e with
 |normal=>exact go _ h rfl
 |exit id=>
  cases hx:exitTo id k with
  |none=>exact stay hx
  |some k'=>exact go _ (h k' hx) ⟨k',hx,rfl⟩
 |goto l=>
  cases hx:gotoIn l k with
  |none=>exact stay hx
  |some k'=>exact go _ (h k' hx) ⟨k',hx,rfl⟩
 |ret=>obtain⟨todo,hs⟩:=h;exact go _ hs ⟨todo,rfl⟩
 |panic chain=>obtain⟨todo,hs⟩:=h;exact go _ hs ⟨todo,rfl⟩
 |outgrown=>exact stay trivial
theorem xu(hP:TameProg P){c:Code}(h:∀T d,c.wp P Q a (re w T d)):wpB P c Q a w:=by
 intro b k cs;refine bes_lone hP fun T d=>?_;obtain⟨e,a',w',hq,harr⟩:=h T d b k cs
 exact xL hq harr
theorem xd.pass{x:Item}{g:Goroutine}(hx:x.plain=true)(h:∃e a w',e≠ .normal/\Q e a w'/\(Lost (x::k) e\/(w'=w/\ArrG b (x::k) cs e a g))):xd b k cs Q g w:=by
 obtain⟨e,a,w',hn,hq,h⟩:=h
 have he:∀id,exitTo id (x::k)=exitTo id k:=fun id=>by cases x<;>simp_all [exitTo,Item.plain]
 have hg:∀l,gotoIn l (x::k)=gotoIn l k->(Lost (x::k) (.goto l)↔Lost k (.goto l)):=fun l h=>by simp only[Lost,h]
 refine⟨e,a,w',hq,?_⟩;cases e with
 |normal=>exact absurd rfl hn
 |exit id=>simpa only [Lost,ArrG,he] using h
 |goto l=>
  have:gotoIn l (x::k)=gotoIn l k\/(gotoIn l (x::k)).isSome:=by
   cases x<;>simp_all [gotoIn,Item.plain]
  rcases h with h|⟨rfl,k',h1,h2⟩
  ·left;simp only[Lost] at h⊢;rcases this with e|e
   ·rw[<-e];exact h
   ·rw[h] at e;cases e
  ·right;refine⟨rfl,k',?_,h2⟩;cases x<;>simp_all [gotoIn,Item.plain]
 |ret=>exact h
 |panic ch=>exact h
 |outgrown=>exact .inl trivial
end
open Go.Conc
section
variable {P:Program} {Q Q':Exit->Act->World->Prop} {a:Act} {w:World} {b:Frame} {k:List Item} {cs:List Frame}
theorem ze7{c:Code}{T:Nat->Question->Nat}{d:Nat}(h:wpB P c Q a w):wpB P c Q a (re w T d):=h
theorem uT{ops:Array Oper}{l:List Oper}{T:Nat->Question->Nat}{d:Nat}(h:yY P ops Q l a w):yY P ops Q l a (re w T d):=h
theorem head1(hP:TameProg P){fr fr':Frame}{S:Goroutine->World->Prop}(hs:∀w,step P (lone fr cs w)= .next (lone fr' cs w))(h:Bes P S (Go.Conc.G fr' cs) w):Bes P S (Go.Conc.G fr cs) w:=
 vz hP rfl (hs w) h
theorem xd.then{c:Code}{Q:Exit->Act->World->Prop}{next:Act->World->Prop}{y:Item}(hy:y.plain=true)(hn:∀a w,next a w->Bes P (xd b k cs Q) (Go.Conc.G (b.at a (y::k)) cs) w){g:Goroutine}{w:World}
 (h:xd b (y::k) cs (Exit.then next Q) g w):Bes P (xd b k cs Q) g w:=by
 obtain⟨e,a',w',hq,h⟩:=h
 by_cases he:e= .normal
 ·subst he;rcases h with h|⟨rfl,h⟩
  ·exact h.elim
  ·have h':g=Go.Conc.G (b.at a' (y::k)) cs:=h;subst h';exact hn _ _ hq
 ·refine Bes.here (xd.pass hy ⟨e,a',w',he,?_,h⟩);cases e<;>first|exact hq|exact absurd rfl he
theorem wpB_seq(hP:TameProg P){x y:Code}(h:wpB P x (Exit.then (wpB P y Q) Q) a w):wpB P (.seq x y) Q a w:=by
 intro b k cs;refine head1 hP (fun w=>step_seq) ((h b (.code y::k) cs).bind fun g w hh=>?_);exact xd.then (c:=y) rfl (fun a w hn=>hn b k cs) hh
theorem yR(hP:TameProg P){x y:Code}(h:∀T d,x.wp P (Exit.then (wpB P y Q) Q) a (re w T d)):wpB P (.seq x y) Q a w:=wpB_seq hP (xu hP h)
theorem jr(hP:TameProg P){id:Nat}{l:List Oper}(h:yY P l.toArray Q l a w):wpB P (.region id l.toArray false) Q a w:=by
 intro b k cs;refine head1 hP (fun w=>step_region) (h _ ?_ b k cs);apply List.ext_getElem?;intro j;by_cases hj:j<l.length
 ·simp[hj]
 ·simp[hj]
theorem zbZ{ops:Array Oper}{o:Oper}{l:List Oper}{is:List Nat}(h:is.map (ops[·]?)=(o::l).map some):∃i rest,is=i::rest/\ops[i]? =some o/\rest.map (ops[·]?)=l.map some:=by
 cases is with
 |nil=>simp at h
 |cons i rest=>
  simp only[List.map_cons,List.cons.injEq] at h;exact⟨i,rest,rfl,h.1,h.2⟩
theorem one_op{ops:Array Oper}{i:Nat}{rest:List Nat}{o:Oper}{next:Act->World->Prop}(ho:ops[i]? =some o)
 (h:if Region.wanted o (yielded ops a.tmps) then o.wp P a w next Q\/(o.asks P a w/\LetsOut Q) else next (a.put o.dst undef) w):
 (∃a' w',next a' w'/\Steps P (lone (b.at a (.inRegion ops (i::rest)::k)) cs w) (lone (b.at a' (.inRegion ops rest::k)) cs w'))\/
  ∃e a' w',e≠ .normal/\Q e a' w'/\Arrives P (lone (b.at a (.inRegion ops (i::rest)::k)) cs w) b k cs e a' w':=by
 by_cases hw:Region.wanted o (yielded ops a.tmps)=true
 ·rw[if_pos hw] at h;rcases h with h|⟨hasks,a₀,w₀,hq⟩
  case inr=>exact .inr ⟨.outgrown,a₀,w₀,by simp,hq,(Classical.em (b.kind= .early)).imp id fun hk=>asks_outgrown ho hw hk hasks⟩
  have hfin:∀v,(b.at a (.inRegion ops (i::rest)::k)).finish v=b.at (a.put o.dst v) (.inRegion ops rest::k):=fun v=>by rw[Frame.finish_at,ho];rfl
  have hg:=stepG_op (P:=P) (b:=b) (k:=k) (cs:=cs) (w:=w) (rest:=rest) ho hw;unfold Oper.wp at h;generalize hr:(execOp a.eval o).run P w=r at h;have go1:∀{fr':Frame} {cs':List Frame} {w':World},(stepG.apply P true (b.at a (.inRegion ops (i::rest)::k)) cs none (execOp a.eval o) w).bare= .go {frame:=fr',callers:=cs',status:= .running,dying:=none} w'->
   step P (lone (b.at a (.inRegion ops (i::rest)::k)) cs w)= .next (lone fr' cs' w'):=fun e=>step_lone_go (by rw[hg];exact e)
  match r,h with
  | .ok (.value v) w',h=>exact .inl ⟨_,w',h, .one (go1 (by rw[<-hfin];simp[stepG.apply,hr]))⟩
  | .ok .skip w',h=>exact .inl ⟨_,w',h, .one (go1 (by rw[<-hfin];simp[stepG.apply,hr]))⟩
  | .ok (.defer d) w',h=>
    refine .inl ⟨_,w',h, .one (go1 ?_)⟩;have e:=Frame.finish_at b {a with defers:=d::a.defers} ops i rest k undef;rw[ho] at e;have e':({b.at a (.inRegion ops (i::rest)::k) with defers:=d::a.defers}:Frame).finish undef=b.at ({a with defers:=d::a.defers}.put o.dst undef) (.inRegion ops rest::k):=e;rw[<-e'];simp[stepG.apply,hr,Frame.at]
  | .ok (.enter f args) w',h=>
    obtain⟨e,w'',fr,hR,hsteps,_,hleave⟩:=h (b.at a (.inRegion ops (i::rest)::k)::cs)
    have henter:=go1 (fr':=Frame.enter P f args .normal) (cs':=b.at a (.inRegion ops (i::rest)::k)::cs) (w':=w') (by simp[stepG.apply,hr,Frame.at])
    cases e with
    |returned v=>exact .inl ⟨_,w'',hR, .head henter (Steps.trans hsteps (.one (by rw[<-hfin];exact step_leave_returned hleave)))⟩
    |panicked chain=>exact .inr ⟨.panic chain,a,w'',by simp,hR, .inRegion ops (i::rest)::k, .head henter (Steps.trans hsteps (.one (by rw[<-Frame.raise_at];exact step_leave_panicked hleave)))⟩
    |outgrown=>
     obtain⟨a₀,w₀,hq⟩:=hR
     exact .inr ⟨.outgrown,a₀,w₀,by simp,hq, .inr (Outgrown.of_steps (.one henter) hsteps)⟩
  | .ok (.row row args) w',h=>
    obtain⟨v,w'',hR,hsteps⟩:=h (b.at a (.inRegion ops (i::rest)::k)) cs
    have henter:=go1 (fr':=Frame.ofRow P row args .normal) (cs':=b.at a (.inRegion ops (i::rest)::k)::cs) (w':=w') (by simp[stepG.apply,hr,Frame.at])
    exact .inl ⟨_,w'',hR, .head henter (by rw[<-hfin];exact hsteps)⟩
  | .halt (.panic v) w',h=>exact .inr ⟨_,a,w',by simp,h, .inRegion ops (i::rest)::k, .one (go1 (by rw[<-Frame.raise_at];simp[stepG.apply,hr]))⟩
 ·rw[if_neg hw] at h;have hs:=step_op_skip (P:=P) (b:=b) (a:=a) (k:=k) (cs:=cs) (w:=w) (ops:=ops) (i:=i) (rest:=rest) (by simp[ho];simpa using hw)
  simp only[ho,Option.bind_some] at hs;exact .inl ⟨_,w,h, .one hs⟩
end
section
variable {P:Program} {Q Q':Exit->Act->World->Prop} {a:Act} {w:World} {b:Frame} {k:List Item} {cs:List Frame} {ops:Array Oper}
theorem lone_prefix{next:Act->World->Prop}:∀(l:List Oper) (is is2:List Nat) (a:Act) (w:World),is.map (ops[·]?)=l.map some->wpList P ops (Exit.then next Q) l a w->
 (∃a' w',next a' w'/\Steps P (lone (b.at a (.inRegion ops (is++is2)::k)) cs w) (lone (b.at a' (.inRegion ops is2::k)) cs w'))\/
  ∃e a' w',e≠ .normal/\Q e a' w'/\Arrives P (lone (b.at a (.inRegion ops (is++is2)::k)) cs w) b k cs e a' w':=by
 intro l;induction l with
 |nil=>
  intro is is2 a w his h;have:is=[]:=by simpa using his
  subst this;exact .inl ⟨a,w,h,Steps.refl P _⟩
 |cons o l ih=>
  intro is is2 a w his h;obtain⟨i,rest,rfl,ho,hrest⟩:=zbZ his
  simp only[wpList] at h;rcases one_op (b:=b) (k:=k) (cs:=cs) (rest:=rest++is2) ho h with⟨a',w',h1,h2⟩|⟨e,a',w',hn,hq,harr⟩
  ·rcases ih rest is2 a' w' hrest h1 with⟨a2,w2,k1,k2⟩|⟨e,a2,w2,hn,hq,harr⟩
   ·exact .inl ⟨a2,w2,k1,h2.trans k2⟩
   ·exact .inr ⟨e,a2,w2,hn,hq, .of_steps h2 harr⟩
  ·exact .inr ⟨e,a',w',hn,(by cases e<;>first|exact hq|exact absurd rfl hn),harr⟩
theorem listB_cut(hP:TameProg P)(l l2:List Oper)(h:∀T d,wpList P ops (Exit.then (yY P ops Q l2) Q) l a (re w T d)):yY P ops Q (l++l2) a w:=by
 intro is his b k cs;have hlen:is.length=l.length+l2.length:=by simpa using congrArg List.length his
 have e1:is=is.take l.length++is.drop l.length:=(List.take_append_drop _ _).symm;have h1:(is.take l.length).map (ops[·]?)=l.map some:=by
  rw[List.map_take,his,List.map_append,List.take_left' (by simp)]
 have h2:(is.drop l.length).map (ops[·]?)=l2.map some:=by
  rw[List.map_drop,his,List.map_append,List.drop_left' (by simp)]
 rw[e1];refine Bes.bind (S:=fun g w'=>xd b k cs Q g w'\/∃a',yY P ops Q l2 a' w'/\g=Go.Conc.G (b.at a' (.inRegion ops (is.drop l.length)::k)) cs) (bes_lone hP fun T d=>?_) ?_
 ·rcases lone_prefix (b:=b) (k:=k) (cs:=cs) l (is.take l.length) (is.drop l.length) a (re w T d) h1 (h T d) with⟨a',w',q,n,hn⟩|⟨e,a',w',hn,hq,harr⟩
  ·exact⟨n,_,w',hn,rfl, .inr ⟨a',q,rfl⟩⟩
  ·obtain⟨n,g',w'',h3,h4,h5⟩:=xL hq harr
   exact⟨n,g',w'',h3,h4, .inl h5⟩
 ·rintro g w' (h|⟨a',q,rfl⟩)
  ·exact .here h
  ·exact q _ h2 b k cs
theorem listB_lift(hP:TameProg P){l:List Oper}(h:∀T d,wpList P ops Q l a (re w T d)):yY P ops Q l a w:=by
 intro is his b k cs;refine bes_lone hP fun T d=>?_;have e:Exit.then (fun a w=>Q .normal a w) Q=Q:=by
  funext e a w
  cases e<;>rfl
 have h':=h T d;rw[<-e] at h';rcases lone_prefix (b:=b) (k:=k) (cs:=cs) l is [] a (re w T d) his h' with⟨a',w',q,hs⟩|⟨e,a',w',hn,hq,harr⟩
 ·rw[List.append_nil] at hs;exact xL (e:= .normal) q (Steps.trans hs (.one step_region_end))
 ·rw[List.append_nil] at harr;exact xL hq harr
theorem zcN(hP:TameProg P){o:Oper}{l:List Oper}{f:FuncId}{args:Array Value}(hw:Region.wanted o (yielded ops a.tmps)=true)(hr:∀T d,(execOp a.eval o).run P (re w T d)= .ok (.enter f args) (re w T d))
 (h:CallsB P f args w fun
  | .returned v,w'=>yY P ops Q l (a.put o.dst v) w'
  | .panicked chain,w'=>Q (.panic chain) a w'
  | .outgrown,_=>False):yY P ops Q (o::l) a w:=by
 intro is his b k cs;obtain⟨i,rest,rfl,ho,hrest⟩:=zbZ his
 have hfin:∀v,(b.at a (.inRegion ops (i::rest)::k)).finish v=b.at (a.put o.dst v) (.inRegion ops rest::k):=fun v=>by rw[Frame.finish_at,ho];rfl
 refine zaK hP (g':=Go.Conc.G (Frame.enter P f args .normal) (b.at a (.inRegion ops (i::rest)::k)::cs)) (w':=w) rfl (fun T d=>?_) ((h _).bind ?_)
 ·refine step_lone_go (cs:=cs) (cs':=b.at a (.inRegion ops (i::rest)::k)::cs) ?_;rw[stepG_op (P:=P) (b:=b) (k:=k) (cs:=cs) (rest:=rest) ho hw];simp[stepG.apply,hr T d,Frame.at]
 ·rintro g w' ⟨e,fr,hR,hne,rfl,hfn,hl⟩;cases e with
  |returned v=>
   refine vz hP (g':=Go.Conc.G (b.at (a.put o.dst v) (.inRegion ops rest::k)) cs) rfl (by rw[<-hfin];exact step_leave_returned hl) (hR rest hrest b k cs)
  |panicked chain=>
   refine vz hP (g':=Go.Conc.G {b.at a (.inRegion ops (i::rest)::k) with mode:= .panicking chain} cs) rfl (by rw[<-Frame.raise_at];exact step_leave_panicked hl) ?_
   exact .here ⟨.panic chain,a,w',hR, .inr ⟨rfl,_,rfl⟩⟩
  |outgrown=>exact absurd rfl hne
variable {f:FuncId} {fn:Func} {c:Code} {args:Array Value} {R R':Ending->World->Prop}
theorem CallsB.mono(h:CallsB P f args w R)(hr:∀e w',R e w'->R' e w'):CallsB P f args w R':=
 fun cs=>(h cs).mono fun g w ⟨e,fr,q,r⟩=>⟨e,fr,hr _ _ q,r⟩
theorem kR(hP:TameProg P)(hf:P.funcs[f]? =some fn)(hb:fn.body=some c)(hR:∀w,¬R .outgrown w)
 (h:wpB P c (bodyPost P fn R) {tmps:=args++Array.replicate (fn.ntmps-args.size) undef,defers:=[]} w):CallsB P f args w R:=by
 intro cs
 let b:Frame:={(default:Frame) with fn:=f,kind:= .normal}
 have henter:Frame.enter P f args .normal=b.at {tmps:=args++Array.replicate (fn.ntmps-args.size) undef,defers:=[]} [.code c]:=by
  simp[Frame.enter,Frame.at,hf,hb,b]
 rw[henter];refine(h b [] cs).bind ?_;rintro g w' ⟨e,a',w'',hq,hh⟩;cases e with
 |normal=>
  rcases hh with hh|⟨rfl,hh⟩
  ·exact hh.elim
  ·have hg:g=Go.Conc.G (b.at a' []) cs:=hh;subst hg;obtain⟨hd,v,hr,hRv⟩:=hq
   exact head1 hP (fun w=>step_end) (.here ⟨.returned v,_,hRv,by simp,rfl,rfl,rfl,hd,rfl,fn,hf,hr⟩)
 |ret=>
  rcases hh with hh|⟨rfl,todo,rfl⟩
  ·exact hh.elim
  ·obtain⟨hd,v,hr,hRv⟩:=hq
   exact .here ⟨.returned v,_,hRv,by simp,rfl,rfl,rfl,hd,rfl,fn,hf,hr⟩
 |panic chain=>
  rcases hh with hh|⟨rfl,todo,rfl⟩
  ·exact hh.elim
  ·obtain⟨hd,hRv⟩:=hq
   exact .here ⟨.panicked chain,_,hRv,by simp,rfl,rfl,rfl,hd,fn,hf⟩
 |exit id=>exact hq.elim
 |goto l=>exact hq.elim
 |outgrown=>exact absurd hq (hR _)
def Leav(P:Program)(f:FuncId)(R:Ending->World->Prop)(cs:List Frame)(g:Goroutine)(w:World):Prop:=∃e fr,R e w/\e≠ .outgrown/\g=Go.Conc.G fr cs/\fr.fn=f/\fr.leaving P w e
def base0(f:FuncId):Frame:={(default:Frame) with fn:=f,kind:= .normal}
def jt(P:Program)(f:FuncId)(R:Ending->World->Prop)(c:Code)(a:Act)(w:World):Prop:=
 ∀cs:List Frame,Bes P (Leav P f R cs) (Go.Conc.G ((base0 f).at a [.code c]) cs) w
theorem jW(hf:P.funcs[f]? =some fn)(hb:fn.body=some c)(h:jt P f R c {tmps:=args++Array.replicate (fn.ntmps-args.size) undef,defers:=[]} w):CallsB P f args w R:=by
 intro cs;have henter:Frame.enter P f args .normal=(base0 f).at {tmps:=args++Array.replicate (fn.ntmps-args.size) undef,defers:=[]} [.code c]:=by
  simp[Frame.enter,Frame.at,hf,hb,base0]
 rw[henter];exact h cs
theorem jg(hP:TameProg P)(hf:P.funcs[f]? =some fn)(hR:∀w,¬R .outgrown w){x y:Code}(h:wpB P x (Exit.then (jt P f R y) (bodyPost P fn R)) a w):jt P f R (.seq x y) a w:=by
 intro cs;refine head1 hP (fun w=>step_seq) ((h (base0 f) [.code y] cs).bind ?_);rintro g w' ⟨e,a',w'',hq,hh⟩;cases e with
 |normal=>
  rcases hh with hh|⟨rfl,hh⟩
  ·exact hh.elim
  ·have hg:g=Go.Conc.G ((base0 f).at a' [.code y]) cs:=hh;subst hg;exact hq cs
 |ret=>
  rcases hh with hh|⟨rfl,todo,rfl⟩
  ·exact hh.elim
  ·obtain⟨hd,v,hr,hRv⟩:=hq
   exact .here ⟨.returned v,_,hRv,by simp,rfl,rfl,rfl,hd,rfl,fn,hf,hr⟩
 |panic chain=>
  rcases hh with hh|⟨rfl,todo,rfl⟩
  ·exact hh.elim
  ·obtain⟨hd,hRv⟩:=hq
   exact .here ⟨.panicked chain,_,hRv,by simp,rfl,rfl,rfl,hd,fn,hf⟩
 |exit id=>exact hq.elim
 |goto l=>exact hq.elim
 |outgrown=>exact absurd hq (hR _)
theorem js(hP:TameProg P)(hf:P.funcs[f]? =some fn)(hR:∀w,¬R .outgrown w)(h:∀T d,c.wp P (bodyPostD P fn R) a (re w T d)):jt P f R c a w:=by
 intro cs;refine bes_lone hP fun T d=>?_;obtain⟨e,a',w',hq,harr⟩:=h T d (base0 f) [] cs
 have fin:∀(fr:Frame) (u:FrameMode),fr.mode=u->fr.defers=a'.defers->fr.tmps=a'.tmps->fr.fn=f->fr.kind= .normal->Leaves P fn a'.tmps R a'.defers u w'->Steps P (lone ((base0 f).at a [.code c]) cs (re w T d)) (lone fr cs w')->
  ∃n g' w',runN P n (solo (Go.Conc.G ((base0 f).at a [.code c]) cs) (re w T d))= .next (solo g' w')/\g'.status= .running/\Leav P f R cs g' w':=by
  intro fr u hu hd ht hfn hk hl hs;obtain⟨e,w2,fr',hRe,hc,hf',hl'⟩:=leaves_steps (cs:=cs) _ u w' fr hu hd ht (by rw[hfn];exact hf) hk hl
  cases e with
  |outgrown=>exact absurd hRe (hR _)
  |returned v=>obtain⟨n,hn⟩:=Steps.trans hs hc;exact⟨n,_,w2,hn,rfl, .returned v,fr',hRe,by simp,rfl,hf'.trans hfn,hl'⟩
  |panicked v=>obtain⟨n,hn⟩:=Steps.trans hs hc;exact⟨n,_,w2,hn,rfl, .panicked v,fr',hRe,by simp,rfl,hf'.trans hfn,hl'⟩
 cases e with
 |normal=>exact fin {(base0 f).at a' [] with mode:= .returning} .returning rfl rfl rfl rfl rfl hq (Steps.trans harr (.one step_end))
 |ret=>obtain⟨todo,hs⟩:=harr;exact fin {(base0 f).at a' todo with mode:= .returning} .returning rfl rfl rfl rfl rfl hq hs
 |panic chain=>obtain⟨todo,hs⟩:=harr;exact fin {(base0 f).at a' todo with mode:= .panicking chain} (.panicking chain) rfl rfl rfl rfl rfl hq hs
 |exit id=>exact hq.elim
 |goto l=>exact hq.elim
 |outgrown=>exact absurd hq (hR _)
theorem callsB_run(hP:TameProg P){Post:Value->World->Prop}(hf:P.funcs[f]? =some fn){x:Tmp}(hres:fn.results= #[.tmp x])(hi:P.inits.idxOf? f=none)(hc:fn.body=some c)
 (hpost:∀v w T d,Post v w->Post v (re w T d)) (h:CallsB P f args w fun| .returned v,w'=>Post v w'|_,_=>False):
 ∃M last o w' t',runNT P (M+1) (solo (Go.Conc.G (Frame.enter P f args .normal) []) w) #[]=(.ended o w',t')/\runN P M (solo (Go.Conc.G (Frame.enter P f args .normal) []) w)= .next last/\step P last= .ended o w'/\Good P Post last o w' t':=by
 have htame:zV (Go.Conc.G (Frame.enter P f args .normal) []):=by
  refine⟨?_,fun c hc=>by cases hc⟩
  intro i hi;simp only[Go.Conc.G,Frame.enter,hf,hc] at hi;simp at hi;subst hi
  trivial
 have hA:Alone P #[Go.Conc.G (Frame.enter P f args .normal) []] #[] (fun _=>0):=by
  refine⟨fun j x hj hx=>?_,fun j _=>rfl,0,past_nil⟩;have:j<1:=(Array.getElem?_eq_some_iff.1 hx).1
  omega
 obtain⟨N,gs,w1,sl,t,hrun,g,m,h0,hrg,htg,hA',T,d,e,fr,hR,hne,rfl,hfn,hl⟩:=h [] rfl htame _ none #[] _ w.tape w.drawn rfl hA
 cases e with
 |outgrown=>exact absurd rfl hne
 |panicked _=>exact hR.elim
 |returned v=>
  obtain⟨hm,hd,hk,fn',hf',hr'⟩:=hl
  have e:fn'=fn:=by rw[hfn] at hf';exact Option.some.inj (hf'.symm.trans hf)
  subst e;rw[results_tmp hres] at hr';simp only[Result.ok.injEq] at hr';obtain⟨hv,_⟩:=hr'
  obtain⟨B,hB⟩:=hA'.past
  have hend:∀w₂:World,stepG P true (Go.Conc.G fr []) w₂= .ended (.done v) w₂ #[]:=fun w₂=>by
   have hr2:(results fn' fr.tmps).runT P w₂ #[]=(.ok v w₂,#[]):=by
    rw[<-hv];simp[results,hres]
   have hev:Sem.events P (results fn' fr.tmps) w₂ #[]= #[]:=by
    have:=congrArg Prod.snd hr2
    rw[Sem.runT_eq] at this;exact this
   have hsn:seen P f #[]= #[]:=by simp[seen]
   simp[Go.Conc.G,stepG,unwind,doReturn,hm,hd,hk,hf,hr2,hfn,hi,GStep.after,results_tmp hres,hv,hev,hsn]
  obtain⟨K,last,o,w',t',h1,h2,h3,h4⟩:=beside_ends (P:=P) (Shun:=fun _=>False) (B:=B) (D:=fun _ _ _=>False) (Post:=Post) (n:=0) (sl:=sl) (w:=w1) (fun _ _ _ h=>h.elim) h0 ⟨fun i g hi hg=>hA'.others i g (by omega) hg,hA'.above⟩ hB
   (Goes.stop fun w₂ hw₂=>⟨rfl,v,#[],hend w₂,by simp,by obtain⟨d2,rfl⟩:=hw₂;exact hpost v (re w1 T d) w1.tape d2 hR⟩)
  have hrun':runNT P N (solo (Go.Conc.G (Frame.enter P f args .normal) []) w) #[]=(.next (crowd gs w1 sl),t):=hrun;refine⟨N+K,last,o,w',t',?_,?_,h3,h4⟩
  ·rw[Nat.add_assoc,runNT_add,hrun'];exact h1
  ·rw[runN_add,<-runNT_fst P _ _ #[],hrun'];exact h2
end
open Go.ConcN (sumTo)
theorem zhX:∀(n:Nat) (v:Value),grB n v=true->∀(F:FuncId->Prop) (ρ:Rn) (v':Value),VRel F ρ v v'->v'=v:=by
 intro n v h F ρ v' hr;induction hr generalizing n with
 |bool b=>rfl
 |int k m=>rfl
 |string s=>rfl
 |pointer x=>cases x with
  |none=>rfl
  |some x=>cases n<;>simp[grB] at h
 |slice a b x=>cases x with
  |none=>rfl
  |some x=>cases n<;>simp[grB] at h
 |chan x=>cases x with
  |none=>rfl
  |some x=>cases n<;>simp[grB] at h
 |func=>cases n<;>simp[grB] at h
 |nilFunc=>rfl
 |iface t _ ih=>
  cases n with
  |zero=>simp[grB] at h
  |succ n=>rw[ih n (by simpa [grB] using h)]
 |far t b o ht=>rcases n with _|_|_|n<;>simp[grB] at h
 |nilIface=>rfl
 | @agg cs cs' hn hh ih=>
   cases n with
   |zero=>simp[grB] at h
   |succ n=>
    have hall:∀(i:Nat) (hi:i<cs.size),grB n cs[i]=true:=by simpa [grB] using h
    have e:cs'=cs:=by
     apply Array.ext_getElem?;intro i;by_cases hi:i<cs.size
     ·have hi':i<cs'.size:=hn▸hi;rw[Array.getElem?_eq_getElem hi,Array.getElem?_eq_getElem hi'];exact congrArg some (ih i _ _ (Array.getElem?_eq_getElem hi) (Array.getElem?_eq_getElem hi') n (hall i hi))
     ·have hi':¬i<cs'.size:=hn▸hi;rw[Array.getElem?_eq_none (by omega),Array.getElem?_eq_none (by omega)]
    rw[e]
 | @tuple cs cs' hn hh ih=>
   cases n with
   |zero=>simp[grB] at h
   |succ n=>
    have hall:∀(i:Nat) (hi:i<cs.size),grB n cs[i]=true:=by simpa [grB] using h
    have e:cs'=cs:=by
     apply Array.ext_getElem?;intro i;by_cases hi:i<cs.size
     ·have hi':i<cs'.size:=hn▸hi;rw[Array.getElem?_eq_getElem hi,Array.getElem?_eq_getElem hi'];exact congrArg some (ih i _ _ (Array.getElem?_eq_getElem hi) (Array.getElem?_eq_getElem hi') n (hall i hi))
     ·have hi':¬i<cs'.size:=hn▸hi;rw[Array.getElem?_eq_none (by omega),Array.getElem?_eq_none (by omega)]
    rw[e]
theorem plainV_of{v:Value}(n:Nat)(h:grB n v=true):PlainV v:=⟨grB_ok n v h,zhX n v h⟩
structure Stands (v v':Value):Prop where
 rel:∀(F:FuncId->Prop) (ρ:Rn),VRel F ρ v v'
 fix:∀(F:FuncId->Prop) (ρ:Rn) (u:Value),VRel F ρ v u->u=v'
theorem Stands.plain{v:Value}(h:PlainV v):Stands v v:=⟨h.gr,h.fix⟩
theorem Stands.far(t:TypeId)(b o:Nat)(ht:vL.contains t=true):Stands (.iface t (.tuple #[.complex .f64 b o])) (.iface t (.pointer (some ⟨b,o,none⟩))):=by
 refine⟨fun F ρ=> .far t b o ht,fun F ρ u hu=>?_⟩;cases hu with
 |iface t h=>
  exfalso;cases h with
  | @tuple cs cs' n h=>
    have hs:0<cs'.size:=by rw[<-n];simp
    have:=h 0 (.complex .f64 b o) (cs'[0]) (by simp) (Array.getElem?_eq_getElem hs)
    cases this
 |far=>rfl
def xX(v w:World)(y:Nat):Prop:=∃cs cs' T fz,v.heap[y]? =some (.cells cs T fz)/\w.heap[y]? =some (.cells cs' T fz)/\cs.size=cs'.size/\∀(i:Nat) (x x':Value),cs[i]? =some x->cs'[i]? =some x'->Stands x x'
theorem xX.rel{v w:World}{y:Nat}(h:xX v w y)(F:FuncId->Prop)(ρ:Rn):∃o o',v.heap[y]? =some o/\w.heap[y]? =some o'/\ObRel F ρ o o':=by
 obtain⟨cs,cs',T,fz,h1,h2,h3,h4⟩:=h
 exact⟨_,_,h1,h2, .cells T fz ⟨h3,fun i x x' a b=>(h4 i x x' a b).rel F ρ⟩⟩
theorem xX.pins{v w:World}{y:Nat}(h:xX v w y):∃o,v.heap[y]? =some o/\Pins o (w.heap[y]?):=by
 obtain⟨cs,cs',T,fz,h1,h2,h3,h4⟩:=h
 refine⟨_,h1,fun F ρ o' hr=>?_⟩;rw[h2];cases hr with
 | @cells _ cs2 _ _ hh=>
   have e:cs2=cs':=by
    apply Array.ext_getElem?;intro i;by_cases hi:i<cs.size
    ·have hi':i<cs2.size:=hh.size▸hi;have hi2:i<cs'.size:=h3▸hi;rw[Array.getElem?_eq_getElem hi',Array.getElem?_eq_getElem hi2];exact congrArg some ((h4 i _ _ (Array.getElem?_eq_getElem hi) (Array.getElem?_eq_getElem hi2)).fix F ρ _ (hh.all i _ _ (Array.getElem?_eq_getElem hi) (Array.getElem?_eq_getElem hi')))
    ·have hi':¬i<cs2.size:=hh.size▸hi;have hi2:¬i<cs'.size:=h3▸hi;rw[Array.getElem?_eq_none (by omega),Array.getElem?_eq_none (by omega)]
   rw[e]
theorem xX.noChan{v w:World}{y:Nat}(h:xX v w y):¬z8 v y/\¬z8 w y:=by
 obtain⟨cs,cs',T,fz,h3,h4,_⟩:=h
 refine⟨?_,?_⟩
 ·rintro⟨o,h1,h2⟩
  rw[h3] at h1;cases h1;cases h2
 ·rintro⟨o,h1,h2⟩
  rw[h4] at h1;cases h1;cases h2
section
variable {P:Program} {S:Goroutine->World->Prop} {Fin:Array Goroutine->World->Option (Nat×Nat)->Trace->Prop}
theorem zdH{g g' child:Goroutine}{v:World}(hr:g.status= .running)(hs:∀T d,stepG P true g (re v T d)= .spawn g' child (re v T d) #[])
 (hF:∀(gs:Array Goroutine) (w:World) (sl:Option (Nat×Nat)) (t:Trace) (m:Nat->Nat) (y z:MemOp),re v w.tape w.drawn=w->gs[0]? =some g->Alone P gs t m->y.g=0->y.act= .go gs.size->z.g=gs.size->z.act= .start->Reach P Fin ((gs.setIfInBounds 0 g').push child) w sl (t++ #[y,z])):
 ∀(M:Nat) (gs:Array Goroutine) (w:World) (sl:Option (Nat×Nat)) (t:Trace) (m:Nat->Nat),re v w.tape w.drawn=w->gs[0]? =some g->sumTo gs.size m<=M->Alone P gs t m->Reach P Fin gs w sl t:=by
 intro M;induction M with
 |zero=>
  intro gs w sl t m hw h0 hm hA;obtain⟨i,x,d,sl',hi,hx,hst⟩:=crowd_pick (P:=P) (w:=w) (sl:=sl) (hA.awake h0 hr) ⟨0,_,h0,hr⟩
  have hwd:re v (w.at d).tape (w.at d).drawn=w.at d:=by rw[<-hw];rfl
  by_cases hi0:i=0
  ·subst hi0;rw[h0] at hi;cases hi
   have h1:=hs (w.at d).tape (w.at d).drawn;rw[hwd] at h1;have hrun:=runT_crowd_spawn (P:=P) (sl:=sl') (i:=0) h0 (show stepG P (0==0) _ (w.at d)=_ from h1);rw[ofEvents_eq] at hrun;simp only[List.map_toArray,List.map_nil,List.push_toArray,List.nil_append,List.cons_append] at hrun;exact Reach.step (hst.trans hrun) (hF gs (w.at d) sl' t m _ _ hwd h0 hA rfl rfl rfl rfl)
  ·obtain⟨g1,ops,m',hrun,hA',hlt⟩:=hA.leaver (w:=w.at d) (sl:=sl') hi hx hi0 (hA.calm h0 hr _)
   omega
 |succ M ih=>
  intro gs w sl t m hw h0 hm hA;obtain⟨i,x,d,sl',hi,hx,hst⟩:=crowd_pick (P:=P) (w:=w) (sl:=sl) (hA.awake h0 hr) ⟨0,_,h0,hr⟩
  have hwd:re v (w.at d).tape (w.at d).drawn=w.at d:=by rw[<-hw];rfl
  by_cases hi0:i=0
  ·subst hi0;rw[h0] at hi;cases hi
   have h1:=hs (w.at d).tape (w.at d).drawn;rw[hwd] at h1;have hrun:=runT_crowd_spawn (P:=P) (sl:=sl') (i:=0) h0 (show stepG P (0==0) _ (w.at d)=_ from h1);rw[ofEvents_eq] at hrun;simp only[List.map_toArray,List.map_nil,List.push_toArray,List.nil_append,List.cons_append] at hrun;exact Reach.step (hst.trans hrun) (hF gs (w.at d) sl' t m _ _ hwd h0 hA rfl rfl rfl rfl)
  ·obtain⟨g1,ops,m',hrun,hA',hlt⟩:=hA.leaver (w:=w.at d) (sl:=sl') hi hx hi0 (hA.calm h0 hr _)
   exact Reach.step (hst.trans hrun) (ih _ _ _ _ m' hwd (by rw[yl hi0];exact h0) (by omega) hA')
end
section
variable (P:Program) (Fc:FuncId->Prop) (Gc:Nat->Prop) (f:FuncId) (c:Nat) (l0:List Frame) (W:World) (Xc:Goroutine->World->Prop)
structure PipeEnd (g:Goroutine) (w1:World) (ρ:Rn) (fr fr':Frame) (z z':Value) (ok:Bool) (v:World):Prop where
 end_:Xc (Go.Conc.G fr [bottom f c]) v
 comm:∀T d,stepG P true (Go.Conc.G fr [bottom f c]) (re v T d)= .comm (Go.Conc.G fr [bottom f c]) #[rcase c z] true (.recv ok) (re v T d) #[]
 rel:FRel P Fc Gc (fun b=>b=false) [] [] ρ fr fr'
 kind:fr'.kind= .normal
 here:g=Go.Conc.G (fr'.finish (recvd ok z' false)) l0
 zrel:VRel Fc ρ z z'
 wrel:WRel Fc ρ v w1
 one:One P.globals.size ρ
 keep:∀y:Nat,y<W.heap.size->y≠c->w1.heap[y]? =W.heap[y]?
 grow:W.heap.size<=w1.heap.size
 os:w1.os=W.os
 out:w1.output=W.output
 old:∀x y,ρ x y->y<W.heap.size->y=c
end
theorem zgp{P:Program}{Fp Fc:FuncId->Prop}{Gp Gc:Nat->Prop}{f:FuncId}{c cap:Nat}{L:List Value}{l0:List Frame}{Gb:Nat->Prop}{W Wp:World}{Xc Xp:Goroutine->World->Prop}{ts:Array TypeId}{ty:TypeId}{cn:Array Bool}
 (hP:TameProg P) (hPp:SimP P Fp Gp (fun b=>b=true)) (hPc:SimP P Fc Gc (fun b=>b=false)) (hL:∀x∈L,PlainV x)
 {g0:Goroutine} {frc:Frame} {call:Deferred} (hr0:g0.status= .running) (hs:∀T d,stepG P true g0 (re W T d)= .spawn (Go.Conc.G frc l0) (born P call) (re W T d) #[])
 {j:Nat} {frp frp':Frame} (hpre:Pre P j (born P call) (Go.Conc.G frp' [under P]))
 (hfp:FRel P Fp Gp (fun b=>b=true) [] [zM ts ty cn c] (fun x y=>x=y/\(x=c\/Gb x)) frp frp') (hkp:frp.kind= .normal) (hkp':frp'.kind= .deferred) (htp:zy frp)
 (hfc:FRel P Fc Gc (fun b=>b=false) [] [] (fun x y=>x=y/\x=c) frc frc) (hkc:frc.kind= .normal) (htc:zy frc) (ht0:∀fr∈l0,zy fr)
 (hcap:0<cap) (hc:W.heap[c]? =some (.chan cap #[] false 0 0 false)) (hGc:∀g,Gc g->g=c) (hGp:∀g,Gp g->Gb g) (hGb:∀y,Gb y->xX Wp W y) (hWs:Wp.heap.size=W.heap.size) (hWo:Wp.os=W.os) (hsz:P.globals.size<=W.heap.size)
 (hMp:Lone P Xp (Go.Conc.G frp [bottom f c]) (put Wp c (.chan (L.length+1) #[] false 0 0 false)))
 (hMc:Lone P Xc (Go.Conc.G frc [bottom f c]) (put W c (.chan (L.length+1) L.toArray false L.length 0 false)))
 (hSp:yG Xp) (hSc:yG Xc) (hXp:∀g v,Xp g v->jE P f c (L.length+1) L g v) (hXv:∀g v,Xp g v->∀y:Nat,Gb y->y≠c->v.heap[y]? =Wp.heap[y]?)
 (hXc:∀g v,Xc g v->jk P f c (L.length+1) g v) (hXt:∀g v,Xc g v->zy g.frame):
 Bes P (fun g w1=>∃ρ fr fr' z z' ok v,PipeEnd P Fc Gc f c l0 W Xc g w1 ρ fr fr' z z' ok v) g0 W:=by
 intro hr ht gs sl t m T d h0 hA;have hbt:zy (bottom f c):=by
  intro i hi;simp only[bottom,List.mem_singleton] at hi;subst hi
  trivial
 have hcl:c<W.heap.size:=lt_of_some hc;have hGbl:∀y,Gb y->y≠c:=by
  rintro y hy rfl;exact(hGb _ hy).noChan.2 ⟨_,hc,rfl⟩
 have mp:=jK hP hSp (g:=Go.Conc.G frp [bottom f c]) ⟨htp,fun x hx=>by rw[List.mem_singleton.1 hx];exact hbt⟩ rfl hMp
 have mc:=jK hP hSc (g:=Go.Conc.G frc [bottom f c]) ⟨htc,fun x hx=>by rw[List.mem_singleton.1 hx];exact hbt⟩ rfl hMc
 refine zdH (P:=P) (v:=W) (Fin:=Fits (fun g w1=>∃ρ fr fr' z z' ok v,PipeEnd P Fc Gc f c l0 W Xc g w1 ρ fr fr' z z' ok v) P) hr0 hs ?_ _ gs (re W T d) sl t m rfl h0 (Nat.le_refl _) hA;intro gs w sl t m y z hw h0 hA hy hya hz hza;have hgz:0<gs.size:=lt_of_get h0;have hwh:w.heap=W.heap:=by rw[<-hw];rfl
 have hwo:w.os=W.os:=by rw[<-hw];rfl
 have hwu:w.output=W.output:=by rw[<-hw];rfl
 have hu:∀op∈(#[y,z]:Array MemOp),op.act≠ .mark .disable/\op.act≠ .mark .enable:=by
  intro op hop;have:op=y\/op=z:=by simpa using hop
  rcases this with rfl|rfl
  ·rw[hya];simp
  ·rw[hza];simp
 obtain⟨B,hB⟩:=hA.past
 have hduo:=duo_start (n:=gs.size) hB (by omega) (hA.above _ (Nat.le_refl _)) hy hya hz hza (fun b=>(∃x,(fun x y=>x=y/\(x=c\/Gb x)) x b)/\b≠c) (fun b=>(∃x,(fun x y=>x=y/\x=c) x b)/\b≠c) c
 refine phaseA (w0:=w) (n:=gs.size) (cap:=cap) (K:=L.length+1) (L:=L) (Gb:=Gb) (l0:=l0) (ts:=ts) (ty:=ty) (cn:=cn) hPp hPc hL hXp (fun g v hx y h1 h2=>by
  obtain⟨o,q1,q2⟩:=(hGb y h1).pins
  exact⟨o,(hXv g v hx y h1 h2).trans q1,by rw[hwh];exact q2⟩) hSc hXc ?_ _ _ mp _ _ mc
  ⟨fun x y=>x=y/\(x=c\/Gb x),frp,[bottom f c],frp',[under P],put Wp c (.chan (L.length+1) #[] false 0 0 false)⟩ ⟨fun x y=>x=y/\x=c,frc,[bottom f c],frc,l0,put W c (.chan (L.length+1) L.toArray false L.length 0 false)⟩ _ w sl _ m 0 0 0 0 #[] L.toArray #[] (1+j) 1 rfl rfl rfl rfl ?_
 ·
  intro p q gs w1 sl t m bp bc buf ok z z' B hD;have hst:=hD.core.lkc.st;obtain⟨hx1,hx2⟩:=hD.at_
  obtain⟨fr,z2,ok2,eG,_⟩:=hXc _ _ hx1
  simp only[Go.Conc.G,Goroutine.mk.injEq,and_true] at eG;obtain⟨e1,e2⟩:=eG
  have hbase:FRel P Fc Gc (fun b=>b=false) [] [] q.ρ q.fr q.fr'/\q.fr'.kind= .normal/\q.l'=l0:=by
   rw[e2] at hst;generalize hll:[bottom f c]=ll at hst;generalize hl2:q.l'=l2 at hst;have key:∀{a b:List Frame},SRl P Fc Gc (fun b=>b=false) .normal .normal [] [] [bottom f c] l0 q.ρ a b->2<=a.length:=by
    intro a b hab;cases hab with
    |base=>simp
    |push _ _ _ hab=>cases hab<;>simp
   subst hll;cases hst with
   |base hF hk hk'=>exact⟨hF,hk',rfl⟩
   |push hF hk hk' hl=>
    have:=key hl
    simp at this
  obtain⟨hF,hk',hl0⟩:=hbase
  refine⟨_,m,hD.zero,rfl,⟨zS ?_ _,by rw[show(Go.Conc.G (q.fr'.finish (recvd ok z' false)) q.l').callers=l0 from hl0];exact ht0⟩,⟨hD.others,hD.above,B,hD.past⟩,w1.tape,w1.drawn,q.ρ,q.fr,q.fr',z,z',ok,q.v,?_⟩
  ·intro i hi;rw[hF.todo] at hi;exact hXt _ _ hx1 i hi
  ·rw[e2] at hx1 hx2;refine⟨hx1,hx2,hF,hk',by rw[hl0],hD.zrel,fun r r' hr=>hD.core.lkc.rel r r' hr,hD.core.lkc.one,fun y hy hyc=>?_,by rw[<-hwh];exact hD.core.grow,by rw[<-hwo];exact hD.core.os,by rw[<-hwu];exact hD.core.out,fun x y hxy hy=>hD.core.oldc x y hxy (by rw[hwh];exact hy)⟩
   show w1.heap[y]? =_;rw[<-hwh] at hy⊢;by_cases hg:Gb y
   ·obtain⟨o,o',h1,h2,h3⟩:=hD.core.lkp.rel y y (hD.core.idp y hg)
    obtain⟨u,q1,q2⟩:=hD.vars y hg hyc
    rw[h1] at q1;cases q1;rw[h2,q2 _ _ _ h3]
   ·by_cases hp:∃x,p.ρ x y
    ·obtain⟨x,hx⟩:=hp
     rcases(hD.core.oldp x y hx hy).2 with k|k
     ·exact absurd k hg
     ·exact absurd k hyc
    ·by_cases hq:∃x,q.ρ x y
     ·obtain⟨x,hx⟩:=hq
      exact absurd (hD.core.oldc x y hx hy) hyc
     ·exact hD.core.keep y hy (fun x h=>hp ⟨x,h⟩) (fun x h=>hq ⟨x,h⟩)
 ·
  have hwc:w.heap[c]? =some (.chan cap #[] false 0 0 false):=by rw[hwh];exact hc
  have one1:One P.globals.size (fun x y:Nat=>x=y/\(x=c\/Gb x)):=⟨fun x x' y y' h1 h2=>by rw[h1.1,h2.1],fun x y h=>by rw[h.1]⟩
  have one2:One P.globals.size (fun x y:Nat=>x=y/\x=c):=⟨fun x x' y y' h1 h2=>by rw[h1.1,h2.1],fun x y h=>by rw[h.1]⟩
  have hput:∀(o:Obj) (y:Nat),y≠c->(put W c o).heap[y]? =w.heap[y]? :=fun o y hy=>by rw[put_ne (Ne.symm hy),hwh]
  have hclp:c<Wp.heap.size:=by omega
  refine⟨⟨⟨.base hfp hkp hkp',one1,?_,hWo.trans hwo.symm,by rw[yv];show P.globals.size<=Wp.heap.size;omega,by rw[hwh];exact hsz,fun g hg=>⟨rfl, .inr (hGp g hg)⟩⟩,⟨.base hfc hkc hkc,one2,?_,hwo.symm,by rw[yv];exact hsz,by rw[hwh];exact hsz,fun g hg=>⟨rfl,hGc g hg⟩⟩,
   by simpa using put_at hclp,⟨_,_,put_at hcl⟩,rfl,by simp,hwc,by simp,Nat.le_refl _,Nat.lt_succ_self _,⟨rfl, .inl rfl⟩,⟨rfl,rfl⟩,fun x x' y h1 h2=>by rw[<-h2.1];exact h2.2,fun x y h _=>⟨h.1,?_⟩,fun x y h _=>by rw[<-h.1];exact h.2,fun y _ _ _=>rfl,Nat.le_refl _,rfl,rfl,?_,?_,fun x hx=>⟨rfl, .inr hx⟩⟩,
   hduo,by omega,hcap,Nat.zero_le _, .inl ⟨born P call,j,?_,hpre,rfl,rfl⟩, .inl ⟨?_,rfl,rfl⟩,?_,?_⟩
  ·rintro r r' ⟨rfl,hrr⟩;by_cases hrc:r=c
   ·subst hrc;exact⟨_,_,put_at hclp,hwc, .chan ..⟩
   ·rcases hrr with k|k
    ·exact absurd k hrc
    ·obtain⟨o,o',h1,h2,h3⟩:=(hGb r k).rel Fp (fun x y=>x=y/\(x=c\/Gb x))
     exact⟨o,o',by rw[put_ne (Ne.symm hrc)];exact h1,by rw[hwh];exact h2,h3⟩
  ·rintro r r' ⟨rfl,rfl⟩;exact⟨_,_,put_at hcl,hwc, .chan ..⟩
  ·rcases h.2 with k|k
   ·exact .inr (by rw[<-h.1];exact k)
   ·exact .inl (by rw[<-h.1];exact k)
  ·rintro x y ⟨rfl,hxx⟩ ⟨o,h1,h2⟩;rcases hxx with k|k
   ·exact⟨k,k⟩
   ·exfalso;refine(hGb x k).noChan.1 ⟨o,?_,h2⟩;rw[put_ne (Ne.symm (hGbl x k))] at h1;exact h1
  ·rintro x y ⟨rfl,rfl⟩ _;exact⟨rfl,rfl⟩
  ·have e:gs.size=(gs.setIfInBounds 0 (Go.Conc.G frc l0)).size:=by simp
   rw[e,Array.getElem?_push_size]
  ·rw[Array.getElem?_push_lt (by simpa using hgz)]
   simp
  ·intro k x hk0 hkn hx;have hx':gs[k]? =some x:=by
    rw[Array.getElem?_push,if_neg (by simpa using hkn),Array.getElem?_setIfInBounds_ne (Ne.symm hk0)] at hx
    exact hx
   rw[deaf_still hu];exact hA.others k x hk0 hx'
  ·intro k hk;rw[deaf_still hu];exact hA.above k (by simp at hk;omega)
end Go.Bsd
