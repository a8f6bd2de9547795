/- A part. -/
import Derived.Test.YtonmcakdofbjiaaGreatDoorM3
import Derived.KernelRfl
import Derived.Conc.CrowdComm
set_option linter.all false
set_option maxRecDepth 100000
set_option maxHeartbeats 8000000
namespace Go.Bsd
open Go.Conc
def yj:Item->Prop
 | .extern row _=>row= "runtime.print$piece"
 | .call _ _ _ _=>False
 |_=>True
def zy(fr:Frame):Prop:=∀i∈fr.todo,yj i
def zV(g:Goroutine):Prop:=zy g.frame/\∀c∈g.callers,zy c
def MS(e:Event):Prop:=∀m,e.loc= .mark m->e.sync=true
theorem zbT{α:Type}(P:Program)(s:Sem α):∀(w:World) (es:Array Event),(∀e∈es,MS e)->∀e∈(s.runT P w es).2,MS e:=by
 have push:∀(es:Array Event) (x:Event),(∀e∈es,MS e)->MS x->∀e∈es.push x,MS e:=fun es x h hx e he=>(Array.mem_push.1 he).elim (h e) (fun e'=>e'▸hx);have app:∀(es:Array Event) (l:List Addr) (wr sy:Bool),(∀e∈es,MS e)->∀e∈es++l.toArray.map (fun a=>(⟨.cell a,wr,sy⟩:Event)),MS e:=fun es l wr sy h e he=>(Array.mem_append.1 he).elim (h e) (fun e'=>by
  obtain⟨a,_,rfl⟩:=Array.mem_map.1 e'
  intro m hm;cases hm)
 have cell:∀(a:Addr) (wr sy:Bool),MS ⟨.cell a,wr,sy⟩:=fun a wr sy m hm=>by cases hm
 have obj:∀(a:Nat) (wr sy:Bool),MS ⟨.obj a,wr,sy⟩:=fun a wr sy m hm=>by cases hm
 induction s with
 |pure a=>exact fun w es h=>h
 |load m a k ih=>
  intro w es h;simp only[Sem.runT];split
  ·exact ih _ _ _ (push _ _ h (cell _ _ _))
  ·split
   ·exact ih _ _ _ (app _ _ _ _ h)
   ·exact h
 |store m a v k ih=>
  intro w es h;have gen:∀r,r=(Sem.store m a v k).runT P w es->∀e∈r.2,MS e:=by
   intro r hr;cases v<;>simp only[Sem.runT] at hr<;>subst hr<;>first
    |exact h
    |(split
      ·split
       ·exact h
       ·exact ih _ _ (push _ _ h (cell _ _ _))
      ·split
       ·exact ih _ _ (app _ _ _ _ h)
       ·exact h)
  exact gen _ rfl
 |new o k ih=>exact fun w es h=>ih _ _ _ h
 |shape r k ih=>exact fun w es h=>ih _ _ _ h
 |freeze a n k ih=>exact fun w es h=>ih _ _ h
 |frozen a k ih=>exact fun w es h=>ih _ _ _ h
 |getObj r k ih=>
  intro w es h;simp only[Sem.runT];split
  ·exact h
  ·exact ih _ _ _ (push _ _ h (obj _ _ _))
  ·exact h
 |setObj r o k ih=>
  intro w es h;simp only[Sem.runT];split
  ·exact h
  ·exact ih _ _ (push _ _ h (obj _ _ _))
  ·exact h
 |choose q k ih=>
  intro w es h;simp only[Sem.runT];split
  ·exact ih _ _ _ h
  ·exact ih _ _ _ h
 |sys c k ih=>exact fun w es h=>ih _ _ _ (push _ _ h (fun m hm=>by cases hm))
 |program k ih=>exact fun w es h=>ih _ _ _ h
 |mark m k ih=>exact fun w es h=>ih _ _ (push _ _ h (fun m hm=>rfl))
 |halt hh=>exact fun w es h=>h
def Bal(es:Array Event):Prop:=(∀d,deafBehind d es=d)/\∀e∈es,MS e
theorem xo:Bal #[]:=⟨fun _=>rfl,by simp⟩
theorem bal_app{es es':Array Event}(h:Bal es)(h':Bal es'):Bal (es++es'):=⟨fun d=>by rw[qR,h.1 d,h'.1 d],fun e he=>(Array.mem_append.1 he).elim (h.2 e) (h'.2 e)⟩
def kF(d:Nat)(e:Event):Nat:=match e.loc with| .mark .disable=>d+1| .mark .enable=>d-1|_=>d
theorem wa(d:Nat)(es:Array Event):deafBehind d es=es.toList.foldl kF d:=by
 unfold deafBehind;rw[<-Array.foldl_toList];rfl
theorem bal_seen{P:Program}{fn:FuncId}{es:Array Event}(h:Bal es):Bal (seen P fn es):=by
 have key:∀(l:List Event) (q:Bool) (kept:Array Event) (d:Nat),(∀e∈l,MS e)->(∀e∈kept,MS e)->
  (∀e∈(l.foldl (fun(x:Bool×Array Event) e=>match e.loc with
   | .mark (.extern f)=>((P.funcs[f]?).any (·.norace),x.2)
   |_=>(x.1,if x.1&&!e.sync then x.2 else x.2.push e)) (q,kept)).2,MS e)/\
  deafBehind d ((l.foldl (fun(x:Bool×Array Event) e=>match e.loc with
   | .mark (.extern f)=>((P.funcs[f]?).any (·.norace),x.2)
   |_=>(x.1,if x.1&&!e.sync then x.2 else x.2.push e)) (q,kept)).2)=l.foldl kF (deafBehind d kept):=by
  intro l;induction l with
  |nil=>exact fun q kept d _ hk=>⟨hk,rfl⟩
  |cons e l ih=>
   intro q kept d hl hk;simp only[List.foldl_cons];have hl':∀x∈l,MS x:=fun x hx=>hl x (List.mem_cons_of_mem _ hx);have he:MS e:=hl e (List.mem_cons_self ..);have pushed:(∀x∈kept.push e,MS x):=fun x hx=>(Array.mem_push.1 hx).elim (hk x) (fun e'=>e'▸he);have pd:deafBehind d (kept.push e)=kF (deafBehind d kept) e:=by rw[deafBehind_push];rfl
   by_cases hx:∃f,e.loc= .mark (.extern f)
   ·obtain⟨f,hf⟩:=hx
    have e1:kF (deafBehind d kept) e=deafBehind d kept:=by simp[kF,hf]
    simp only[hf,e1];exact ih _ _ d hl' hk
   ·have e2:(match e.loc with
     | .mark (.extern f)=>((P.funcs[f]?).any (·.norace),kept)
     |_=>(q,if q&&!e.sync then kept else kept.push e))=(q,if q&&!e.sync then kept else kept.push e):=by
     cases hc:e.loc with
     |mark m=>cases m<;>first|rfl|exact absurd ⟨_,hc⟩ hx
     |_=>rfl
    rw[e2];by_cases hq:(q&&!e.sync)=true
    ·rw[if_pos hq];have hs:e.sync=false:=by simp at hq;exact hq.2
     have e1:kF (deafBehind d kept) e=deafBehind d kept:=by
      unfold kF;cases hc:e.loc with
      |mark m=>rw[he m hc] at hs;cases hs
      |_=>rfl
     rw[e1];exact ih _ _ d hl' hk
    ·rw[if_neg hq,<-pd];exact ih _ _ d hl' pushed
 have hh:=fun d=>key es.toList ((P.funcs[fn]?).any (·.norace)) #[] d (fun e he=>h.2 e (Array.mem_toList_iff.1 he)) (by simp)
 have e:seen P fn es=(es.toList.foldl (fun(x:Bool×Array Event) e=>match e.loc with
  | .mark (.extern f)=>((P.funcs[f]?).any (·.norace),x.2)
  |_=>(x.1,if x.1&&!e.sync then x.2 else x.2.push e)) ((P.funcs[fn]?).any (·.norace),#[])).2:=by
  unfold seen;dsimp only;rw[<-Array.foldl_toList];rfl
 rw[e];refine⟨fun d=>?_,(hh 0).1⟩;rw[(hh d).2];have:=h.1 d
 rw[wa] at this;exact this
def mapG(f:World->World):GStep->GStep
 | .go g w es=> .go g (f w) es
 | .comm g c b s w es=> .comm g c b s (f w) es
 | .spawn g c w es=> .spawn g c (f w) es
 | .count g w es=> .count g (f w) es
 | .timer g op w es=> .timer g op (f w) es
 | .alone g on w es=> .alone g on (f w) es
 | .newcoro g c d w es=> .newcoro g c d (f w) es
 | .coroswitch g c e w es=> .coroswitch g c e (f w) es
 | .collect g w es=> .collect g (f w) es
 | .watch g w es=> .watch g (f w) es
 | .ended o w es=> .ended o (f w) es
def wOf:GStep->World
 | .go _ w _=>w
 | .comm _ _ _ _ w _=>w
 | .spawn _ _ w _=>w
 | .count _ w _=>w
 | .timer _ _ w _=>w
 | .alone _ _ w _=>w
 | .newcoro _ _ _ w _=>w
 | .coroswitch _ _ _ w _=>w
 | .collect _ w _=>w
 | .watch _ w _=>w
 | .ended _ w _=>w
def Ends(s:GStep):Prop:=∃o w es,s= .ended o w es
def Fit:GStep->Prop
 | .go g _ es=>zV g/\Bal es/\awake g
 | .comm g _ _ _ _ es=>zV g/\Bal es/\awake g
 | .coroswitch g _ e _ es=>e=true/\zV g/\Bal es/\awake g
 | .spawn _ _ _ _| .ended _ _ _=>True
 |_=>False
def Nice(F:World->GStep):Prop:=
 ∀w,Ends (F w)\/(Fit (F w)/\∃n,(wOf (F w)).tape=w.tape/\(wOf (F w)).drawn=w.drawn+n/\∀T d,zJ w n T d->F (re w T d)=mapG (fun w'=>re w' T (d+n)) (F w))
theorem nice_ended(o:Outcome):Nice (fun w=> .ended o w):=fun w=> .inl ⟨_,_,_,rfl⟩
theorem nice_go{g:Goroutine}(h:zV g)(ha:awake g:=by intro t;simp):Nice (fun w=> .go g w):=fun w=> .inr ⟨⟨h,xo,ha⟩,0,rfl,rfl,fun _ _ _=>rfl⟩
theorem zdU{g:Goroutine}(h:zV g)(c:Array CommCase)(b:Bool)(s:CommShape)(ha:awake g:=by intro t;simp):Nice (fun w=> .comm g c b s w):=fun w=> .inr ⟨⟨h,xo,ha⟩,0,rfl,rfl,fun _ _ _=>rfl⟩
theorem gx{g:Goroutine}(h:zV g)(c:Nat){e:Bool}(he:e=true)(ha:awake g:=by intro t;simp):Nice (fun w=> .coroswitch g c e w):=fun w=> .inr ⟨⟨he,h,xo,ha⟩,0,rfl,rfl,fun _ _ _=>rfl⟩
theorem zcH(g c:Goroutine):Nice (fun w=> .spawn g c w):=fun w=> .inr ⟨trivial,0,rfl,rfl,fun _ _ _=>rfl⟩
theorem fit_after{es:Array Event}(he:Bal es){s:GStep}(h:Fit s):Fit (GStep.after es s):=by
 cases s<;>first|exact⟨h.1,bal_app he h.2.1,h.2.2⟩|exact⟨h.1,h.2.1,bal_app he h.2.2.1,h.2.2.2⟩|exact h
theorem mapG_after(f:World->World)(es:Array Event)(s:GStep):mapG f (GStep.after es s)=GStep.after es (mapG f s):=by cases s<;>rfl
theorem wOf_after(es:Array Event)(s:GStep):wOf (GStep.after es s)=wOf s:=by cases s<;>rfl
theorem nice_after{F:World->GStep}{es:Array Event}(he:Bal es)(h:Nice F):Nice (fun w=>GStep.after es (F w)):=by
 intro w;rcases h w with⟨o,w',es',e⟩|⟨hf,n,h1,h2,h3⟩
 ·exact .inl ⟨o,w',es++es',by simp only[e];rfl⟩
 ·exact .inr ⟨fit_after he hf,n,by rw[wOf_after];exact h1,by rw[wOf_after];exact h2,fun T d hT=>by rw[mapG_after,<-h3 T d hT]⟩
def zcc{α:Type}(r:Result α)(w:World):Result α:=mapW (fun _=>w) r
theorem zcb{α:Type}(r:Result α):zcc r (xC r)=r:=by cases r<;>rfl
theorem withW_map{α:Type}(r:Result α)(f:World->World):zcc r (f (xC r))=mapW f r:=by cases r<;>rfl
theorem nice_sem{α:Type}{P:Program}{post:α->Prop}{s:Sem α}(hs:Safe P post 0 s)(K:Result α->Array Event->GStep)
 (hok:∀a es,post a->Bal es->Nice (fun w=>K (.ok a w) es))
 (hend:∀h w es,endsRun h->Ends (K (.halt h w) es))
 (hh:∀h es,(ko h->Bal es)->¬endsRun h->(∀m,h≠ .fatal m)->Nice (fun w=>K (.halt h w) es)):Nice (fun w=>K (s.runT P w #[]).1 (s.runT P w #[]).2):=by
 intro w;have hms:=zbT P s w #[] (by simp)
 have hd:=fun d=>Safe.deaf s hs w #[] d d rfl;rcases Safe.local s hs w #[] with⟨h,w',es',he,e⟩|⟨n,h1,h2,h3⟩
 ·left;simp only[e];exact hend h w' es' he
 ·simp only[];cases hr:s.runT P w #[] with
  |mk r es=>
   rw[hr] at h1 h2 h3 hms;have fin:Nice (fun w'=>K (zcc r w') es)\/Ends (K r es):=by
    cases r with
    |ok a w'=>exact .inl (hok a es ((hd 0).1 a w' es hr).1 ⟨fun d=>((hd d).1 a w' es hr).2,hms⟩)
    |halt h w'=>
     by_cases he:endsRun h
     ·exact .inr (hend h w' es he)
     ·exact .inl (hh h es (fun hg=>⟨fun d=>((hd d).2 h w' es hr).2 hg,hms⟩) he ((hd 0).2 h w' es hr).1)
   rcases fin with fin|fin
   ·have fw:=fin (xC r);simp only[zcb] at fw;rcases fw with x|⟨hf,m,g1,g2,g3⟩
    ·exact .inl x
    ·right;refine⟨hf,n+m,g1.trans h1,by rw[g2];simp only at h2;rw[h2];omega,fun T d hT=>?_⟩
     obtain⟨f1,f2⟩:=hT.split (xC r) h1 h2
     rw[h3 T d f1,<-Nat.add_assoc];have:=g3 T (d+n) f2
     rw[withW_map r (fun w'=>re w' T (d+n))] at this;exact this
   ·exact .inl fin
end Go.Bsd
namespace Go.Bsd
open Go.Conc
theorem zP{F G:World->GStep}(e:∀w,F w=G w)(h:Nice G):Nice F:=by
 have:F=G:=funext e
 rw[this];exact h
section
variable {P:Program}
theorem nice_run{α:Type}{post:α->Prop}{s:Sem α}(hs:Safe P post 0 s){F:World->GStep}(K:Result α->Array Event->GStep)(hF:∀w,F w=K (s.runT P w #[]).1 (s.runT P w #[]).2)
 (hok:∀a es,post a->Bal es->Nice (fun w=>K (.ok a w) es)) (hend:∀h w es,endsRun h->Ends (K (.halt h w) es))
 (hh:∀h es,(ko h->Bal es)->¬endsRun h->(∀m,h≠ .fatal m)->Nice (fun w=>K (.halt h w) es)):Nice F:=zP hF (nice_sem hs K hok hend hh)
def xB(F:World->GStep)(w:World):Prop:=
 Ends (F w)\/(Fit (F w)/\∃n,(wOf (F w)).tape=w.tape/\(wOf (F w)).drawn=w.drawn+n/\∀T d,zJ w n T d->F (re w T d)=mapG (fun w'=>re w' T (d+n)) (F w))
theorem comp_at{F:World->GStep}{w w':World}{n:Nat}{G:World->GStep}(hG:Nice G)(hw:w'.tape=w.tape)(hd:w'.drawn=w.drawn+n)(e:F w=G w')(e2:∀T d,zJ w n T d->F (re w T d)=G (re w' T (d+n))):xB F w:=by
 unfold xB;rw[e];rcases hG w' with h|⟨hf,m,h1,h2,h3⟩
 ·exact .inl h
 ·refine .inr ⟨hf,n+m,h1.trans hw,by rw[h2,hd];omega,fun T d hT=>?_⟩
  obtain⟨f1,f2⟩:=hT.split w' hw hd
  rw[e2 T d f1,<-Nat.add_assoc];exact h3 T (d+n) f2
theorem nice_of{F:World->GStep}(h:∀w,xB F w):Nice F:=h
theorem ends_at{F:World->GStep}{w:World}(h:Ends (F w)):xB F w:= .inl h
theorem point{α:Type}{post:α->Prop}{s:Sem α}{w:World}{x:Result α×Array Event}(hr:s.runT P w #[]=x)(hs:Safe P post 0 s):
 (∃h w' es,endsRun h/\x=(.halt h w',es))\/
 ((∀a w',x.1= .ok a w'->post a/\Bal x.2)/\(∀h w',x.1= .halt h w'->(∀m,h≠ .fatal m)/\(ko h->Bal x.2))/\
   ∃n,(xC x.1).tape=w.tape/\(xC x.1).drawn=w.drawn+n/\∀T d,zJ w n T d->s.runT P (re w T d) #[]=(mapW (fun w'=>re w' T (d+n)) x.1,x.2)):=by
 subst hr;rcases Safe.local s hs w #[] with⟨h,w',es',he,e⟩|h
 ·exact .inl ⟨h,w',es',he,e⟩
 ·have hms:=zbT P s w #[] (by simp)
  refine .inr ⟨fun a w' e=>?_,fun hh w' e=>?_,h⟩
  ·have hd:=fun d=>(Safe.deaf s hs w #[] d d rfl).1 a w' (s.runT P w #[]).2 (by rw[<-e])
   exact⟨(hd 0).1,fun d=>(hd d).2,hms⟩
  ·have hd:=fun d=>(Safe.deaf s hs w #[] d d rfl).2 hh w' (s.runT P w #[]).2 (by rw[<-e])
   exact⟨(hd 0).1,fun hg=>⟨fun d=>(hd d).2 hg,hms⟩⟩
theorem zb5{α:Type}(c:Sys){k:SysRet->Sem α}(h1:∃h,endsRun h/\k .wouldBlock= .halt h)(h2:∀r,Any P (k r)):Any P (sys c >>= k):=⟨h1,fun r _=>h2 r⟩
theorem any_held{k:Unit->Sem Unit}(b:Bool)(hk:Any P (k ())):Any P (mark .disable >>= fun _=>Extern.PrintPieces.held >>= fun d=>if d=true then ((Sem.halt .blocked:Sem Unit) >>= fun _=>if b=true then (program >>= fun p=>store (printLock p) (.bool true) .atomic >>= fun _=>mark .enable >>= k) else mark .enable >>= k) else if b=true then (program >>= fun p=>store (printLock p) (.bool true) .atomic >>= fun _=>mark .enable >>= k) else mark .enable >>= k):=by
 refine .inl ⟨rfl,fun v=>?_⟩;cases v<;>try exact⟨by simp, .inr ⟨by simp,by simp,by simp⟩⟩
 rename_i d;cases d
 ·cases b
  ·exact .inr (.inl ⟨rfl,0,rfl,hk⟩)
  ·exact .inr (.inl ⟨rfl,0,rfl,hk⟩)
 ·exact⟨by simp, .inr ⟨by simp,by simp,by simp⟩⟩
theorem nice_writeOn{fr:Frame}(h:zy fr)(dy:Dying)(f:Fatal):Nice (fun w=>writeOn P fr dy f w):=by
 intro w;unfold writeOn;dsimp only;split
 ·exact .inl ⟨_,_,_,rfl⟩
 ·rename_i piece rest _;generalize hr:Sem.runT P _ w #[]=x;have hp:=point (post:=fun _=>True) hr (by
   have fin:∀{k:SysRet->Sem Unit} (_:∃h,endsRun h/\k .wouldBlock= .halt h) (_:∀r,Any P (k r)),Any P (if piece.size>65536 then do unsupported (.noEntry "a report of more than 65536 bytes");(sys (.write 2 piece) >>= k) else (sys (.write 2 piece) >>= k)):=by
    intro k h1 h2;split
    ·exact any_bind (any_unsupported _) fun _=>zb5 _ h1 h2
    ·exact zb5 _ h1 h2
   have all:∀r:SysRet,Any P (match r with| .int n=>if n !=piece.size then unsupported (.noEntry "a report that its descriptor cannot take whole") else pure ()| .err _=>pure ()|_=>unsupported (.noEntry "a report that its descriptor cannot take whole"):Sem Unit):=by
    intro r
    repeat' first|(simp;done)|split
   split
   ·exact any_held f.whole (fin ⟨.unsupported (.noEntry "a report that its descriptor cannot take whole"),trivial,rfl⟩ all)
   ·exact fin ⟨.unsupported (.noEntry "a report that its descriptor cannot take whole"),trivial,rfl⟩ all)
  rcases hp with⟨hh,w',es,he,rfl⟩|⟨h1,h2,n,h3,h4,h5⟩
  ·left;cases hh<;>first|exact he.elim|exact⟨_,_,_,rfl⟩|(rename_i u;cases u<;>exact⟨_,_,_,rfl⟩)
  ·obtain⟨r,es⟩:=x
   simp only at h1 h2 h3 h4 h5
   cases r with
   |ok a w'=>exact .inr ⟨⟨⟨h,by simp⟩,(h1 a w' rfl).2,by intro t;simp⟩,n,h3,h4,fun T d hT=>by rw[h5 T d hT];rfl⟩
   |halt hh w'=>
    cases hh with
    |blocked=>exact .inr ⟨⟨⟨h,by simp⟩,xo,by intro t;simp⟩,n,h3,h4,fun T d hT=>by rw[h5 T d hT];rfl⟩
    |unsupported u=>exact .inl ⟨_,_,_,rfl⟩
    |panic v=>exact .inl ⟨_,_,_,rfl⟩
    |waiting=>exact .inl ⟨_,_,_,rfl⟩
    |exit c=>exact .inl ⟨_,_,_,rfl⟩
    |fatal m=>exact .inl ⟨_,_,_,rfl⟩
    |throw m=>exact .inl ⟨_,_,_,rfl⟩
    |goexit=>exact .inl ⟨_,_,_,rfl⟩
    |stuck m=>exact .inl ⟨_,_,_,rfl⟩
end
attribute [local irreducible] Safe
theorem zS{fr:Frame}(h:zy fr)(v:Value):zy (fr.finish v):=by
 unfold Frame.finish;have hd:∀{x:Item} {k:List Item},fr.todo=x::k->(∀i∈k,yj i):=fun e i hi=>h i (by rw[e];exact List.mem_cons_of_mem _ hi)
 split
 ·rename_i ops i rest k e;intro x hx;rcases List.mem_cons.1 hx with rfl|hx
  ·trivial
  ·exact hd e x hx
 ·rename_i l k e;intro x hx;rcases List.mem_cons.1 hx with rfl|hx
  ·trivial
  ·exact hd e x hx
 ·rename_i k e;exact fun x hx=>hd e x hx
 ·rename_i d wr res sv k e;exact False.elim (h (.call d wr res sv) (by rw[e];exact List.mem_cons_self ..))
 ·rename_i r a k e;exact fun x hx=>hd e x hx
 ·exact h
theorem tame_raise{fr:Frame}(h:zy fr)(vs:List PanicEntry):zy (fr.raise vs):=by
 unfold Frame.raise
 split<;>exact h
theorem xY(P:Program)(f:FuncId)(args:Array Value)(k:CallKind):zy (Frame.enter P f args k):=by
 intro i hi;simp only[Frame.enter,List.mem_singleton] at hi;subst hi
 trivial
theorem tame_round(l:Nat)(f:FuncId)(t:Array Value)(a b:Code)(k:CallKind):zy (Frame.round l f t a b k):=by
 intro i hi;simp only[Frame.round,List.mem_cons,List.not_mem_nil,or_false] at hi;rcases hi with rfl|rfl|rfl<;>trivial
theorem tame_recover:∀(cs:List Frame) (fr:Frame) (v:Value) (cs':List Frame),(∀c∈cs,zy c)->tryRecover fr cs=some (v,cs')->∀c∈cs',zy c
 |[],fr,v,cs',_,h=>by
  unfold tryRecover at h
  split at h<;>simp_all
 |c::cs,fr,v,cs',hc,h=>by
  unfold tryRecover at h
  split at h
  ·rename_i caller rest hk he;cases he
   split at h
   ·cases h;intro x hx;rcases List.mem_cons.1 hx with rfl|hx
    ·exact hc c (List.mem_cons_self ..)
    ·exact hc x (List.mem_cons_of_mem _ hx)
   ·cases h
  ·rename_i wrapper rest hk he;cases he;cases hr:tryRecover c cs with
   |none=>rw[hr] at h;cases h
   |some y=>
    rw[hr] at h;cases h;intro x hx;rcases List.mem_cons.1 hx with rfl|hx
    ·exact hc x (List.mem_cons_self ..)
    ·exact tame_recover cs c y.1 y.2 (fun c hh=>hc c (List.mem_cons_of_mem _ hh)) hr x hx
  ·cases h
theorem tame_recoverLoop:∀(cs:List Frame) (l:Nat) (v:Value) (cs':List Frame),(∀c∈cs,zy c)->tryRecoverLoop l cs=some (v,cs')->∀c∈cs',zy c
 |[],l,v,cs',_,h=>by cases h
 |c::cs,l,v,cs',hc,h=>by
  unfold tryRecoverLoop at h;have hr:∀c∈cs,zy c:=fun c hh=>hc c (List.mem_cons_of_mem _ hh);have fin:∀o:Option (Value×List Frame),(∀v cs',o=some (v,cs')->∀c∈cs',zy c)->(o.map fun(v,rest)=>(v,c::rest))=some (v,cs')->∀c∈cs',zy c:=by
   intro o ho e;cases o with
   |none=>cases e
   |some y=>
    cases e;intro x hx;rcases List.mem_cons.1 hx with rfl|hx
    ·exact hc x (List.mem_cons_self ..)
    ·exact ho y.1 y.2 rfl x hx
  refine fin _ (fun v cs' e=>?_) h
  split at e
  ·exact tame_recoverLoop cs _ v cs' hr e
  ·split at e
   ·exact tame_recover cs c v cs' hr e
   ·exact tame_recoverLoop cs _ v cs' hr e
  ·exact tame_recoverLoop cs _ v cs' hr e
theorem tame_exitTo(id:Nat):∀(k k':List Item),(∀i∈k,yj i)->exitTo id k=some k'->∀i∈k',yj i
 |[],k',_,h=>by cases h
 |x::k,k',hk,h=>by
  have hk2:∀i∈k,yj i:=fun i hi=>hk i (List.mem_cons_of_mem _ hi);unfold exitTo at h
  split at h
  ·rename_i id' k2 e;cases e
   split at h
   ·cases h;exact hk2
   ·exact tame_exitTo id k k' hk2 h
  ·rename_i k2 _ e;cases e;exact tame_exitTo id k k' hk2 h
  ·rename_i e;cases e
theorem tame_gotoIn(l:Nat):∀(k k':List Item),(∀i∈k,yj i)->gotoIn l k=some k'->∀i∈k',yj i
 |[],k',_,h=>by cases h
 |x::k,k',hk,h=>by
  have hk2:∀i∈k,yj i:=fun i hi=>hk i (List.mem_cons_of_mem _ hi);unfold gotoIn at h
  split at h
  ·rename_i body k2 e;cases e
   split at h
   ·cases h;intro i hi;rcases List.mem_cons.1 hi with rfl|hi
    ·trivial
    ·rcases List.mem_cons.1 hi with rfl|hi
     ·trivial
     ·exact hk2 i hi
   ·exact tame_gotoIn l k k' hk2 h
  ·rename_i k2 _ e;cases e;exact tame_gotoIn l k k' hk2 h
  ·rename_i e;cases e
theorem nice_dieOf{fr:Frame}(h:zy fr)(a:List ByteArray)(m:String)(b:Bool):Nice (fun w=>dieOf fr a m b w):=nice_go ⟨h,by simp⟩
theorem jx{fr:Frame}(h:zy fr)(m:String):Nice (fun w=>endThrow fr m w):=nice_dieOf h _ _ _
theorem nice_printing{P:Program}{fr:Frame}(h:zy fr)(v:Value):Nice (fun w=>endPrinting P fr v w):=by
 unfold endPrinting;dsimp only;split
 ·exact jx h _
 ·exact nice_ended _
theorem wi{P:Program}(s:ByteArray):Any P (withAddress s):=any_bind (kI _) fun _=>any_pure _
theorem j0{P:Program}:∀(l:List PanicEntry) (b:Bool),Any P (reportChain l b)
 |[],b=>any_pure _
 |e::l,b=>by
  unfold reportChain;have ih:=fun b=>j0 (P:=P) l b
  repeat' first|(with_reducible refine any_bind ?_ (fun _=>?_))|(simp;done)|exact ih _|(split)|(with_reducible intro _)|(dsimp only)
section
variable {P:Program}
theorem xP{α:Type}(s:Sem α)(w:World):s.run P w=(s.runT P w #[]).1:=(Sem.runT_fst P s w #[]).symm
theorem zfR{fr:Frame}(hP:TameProg P)(h:zy fr)(dy:Dying):Nice (fun w=>die P fr dy w):=by
 unfold die;split
 ·exact nice_writeOn h _ _
 ·split
  ·intro w;dsimp only;by_cases hl:printLockHeld P w=true
   ·refine .inr ?_;rw[if_pos hl];refine⟨⟨⟨h,by simp⟩,xo,by intro t;simp⟩,0,rfl,rfl,fun T d _=>?_⟩
    have:printLockHeld P (re w T d)=true:=hl
    rw[if_pos this];rfl
   ·left;rw[if_neg hl];unfold endWith;dsimp only;split
    ·split<;>exact⟨_,_,_,rfl⟩
    ·exact⟨_,_,_,rfl⟩
    ·exact⟨_,_,_,rfl⟩
  ·rename_i v mk rest _;dsimp only;split
   ·exact nice_go ⟨h,by simp⟩
   ·rename_i s _;exact nice_run (P:=P) (wi s) (fun r _=>match r with
     | .ok s w=>GStep.go {frame:=fr,callers:=[],status:= .running,dying:=some {dy with todo:=rest,pending:=mk,texts:=(s,mk)::dy.texts} } w
     | .halt _ w=> .ended (.stuck "report: an address" "") w) (fun w=>by rw[xP];rfl)
     (fun a es _ _=>nice_go ⟨h,by simp⟩) (fun hh w es _=>⟨_,_,_,rfl⟩) (fun hh es _ _ _=>nice_ended _)
   ·rename_i t recv name _;refine nice_of fun w=>?_;obtain⟨x,hr⟩:∃x,Sem.runT P (invoke (.fn (.method name) #[]) #[.iface t recv]) w #[]=x:=⟨_,rfl⟩
    rcases point hr (okN_invoke hP (.fn (.method name) #[]) #[.iface t recv]) with⟨hh,w',es,he,rfl⟩|⟨h1,h2,n,h3,h4,h5⟩
    ·refine ends_at ?_;rw[hr];cases hh<;>first|exact he.elim|exact⟨_,_,_,rfl⟩
    ·obtain⟨r,es⟩:=x
     simp only at h1 h2 h3 h4 h5
     cases r with
     |ok a w'=>
      have hb:=(h1 a w' rfl).2;cases a with
      |enter f args=>exact comp_at (nice_after (bal_seen hb) (nice_go (g:={frame:=Frame.enter P f args .report,callers:=[],status:= .running,dying:=some {dy with todo:=rest,pending:=mk,calling:=true,hand:=some v} }) ⟨xY P f args .report,by simp⟩)) h3 h4 (by rw[hr];rfl) (fun T d hT=>by rw[h5 T d hT];rfl)
      |value v'=>
       cases v' with
       |string s=>exact comp_at (nice_after (bal_seen hb) (nice_go (g:={frame:=fr,callers:=[],status:= .running,dying:=some {dy with todo:=rest,pending:=mk,texts:=(s,mk)::dy.texts} }) ⟨h,by simp⟩)) h3 h4 (by rw[hr];rfl) (fun T d hT=>by rw[h5 T d hT];rfl)
       |_=>exact ends_at (by rw[hr];exact⟨_,_,_,rfl⟩)
      |_=>exact ends_at (by rw[hr];exact⟨_,_,_,rfl⟩)
     |halt hh w'=>
      cases hh with
      |panic v'=>exact comp_at (nice_after (bal_seen ((h2 _ w' rfl).2 trivial)) (nice_printing h v')) h3 h4 (by rw[hr];rfl) (fun T d hT=>by rw[h5 T d hT];rfl)
      |_=>exact ends_at (by rw[hr];exact⟨_,_,_,rfl⟩)
   ·exact nice_ended _
end
end Go.Bsd
namespace Go.Bsd
open Go.Conc
attribute [local irreducible] Safe
section
variable {P:Program}
theorem ur(w:World)(T:Nat->Question->Nat)(d:Nat):∀(n:Nat) (f:FuncId),P.found (re w T d) n f=P.found w n f:=by
 intro n;induction n with
 |zero=>intro f;rfl
 |succ n ih=>
  intro f;unfold Program.found;simp only[ih,re_heap];rfl
theorem brought_re(w:World)(T:Nat->Question->Nat)(d:Nat):∀(n:Nat) (todo seen:List FuncId),P.brought (re w T d) n todo seen=P.brought w n todo seen:=by
 intro n;induction n with
 |zero=>intro t s;rfl
 |succ n ih=>
  intro t s;cases t with
  |nil=>rfl
  |cons f t=>
   unfold Program.brought;simp only[ih,re_heap]
theorem zhW{F:World->GStep}{w:World}{c:World->Bool}(hc:∀T d,c (re w T d)=c w){A B:World->GStep}(e:∀w,F w=if c w=true then A w else B w)(hA:xB A w)(hB:xB B w):xB F w:=by
 have go:∀b,c w=b->xB F w:=by
  intro b hb;cases b with
  |true=>
   have e1:F w=A w:=by rw[e,if_pos hb]
   have e2:∀T d,F (re w T d)=A (re w T d):=fun T d=>by rw[e,if_pos (by rw[hc];exact hb)]
   unfold xB;simp only[e1,e2];exact hA
  |false=>
   have hn:¬c w=true:=by rw[hb];simp
   have e1:F w=B w:=by rw[e,if_neg hn]
   have e2:∀T d,F (re w T d)=B (re w T d):=fun T d=>by rw[e,if_neg (by rw[hc];exact hn)]
   unfold xB;simp only[e1,e2];exact hB
 exact go _ rfl
theorem zcJ{fr:Frame}{cs:List Frame}(hf:zy fr)(hc:∀c∈cs,zy c)(dy:Option Dying)(g:Nat):Nice (fun w=>early P fr cs dy g w):=by
 have notYet:Nice (fun w=>(match w.heap[g]? with
  |some (.pending c elem)=>GStep.go {frame:=fr,callers:=cs,status:= .running,dying:=dy} {w with heap:=w.heap.setIfInBounds g (.cells c elem)}
  |_=> .ended (.stuck "early: the variable does not wait" (fr.pos P)) w)):=by
  refine nice_of fun w=>?_;cases hx:w.heap[g]? with
  |none=>exact ends_at (by rw[hx];exact⟨_,_,_,rfl⟩)
  |some o=>
   cases o with
   |pending c elem=>
    exact comp_at (n:=0) (w':={w with heap:=w.heap.setIfInBounds g (.cells c elem)}) (nice_go (g:={frame:=fr,callers:=cs,status:= .running,dying:=dy}) ⟨hf,hc⟩) rfl rfl (by rw[hx]) (fun T d _=>by rw[re_heap,hx];try rfl)
   |_=>exact ends_at (by rw[hx];exact⟨_,_,_,rfl⟩)
 unfold early;dsimp only;split
 ·exact notYet
 ·split
  ·exact nice_ended _
  ·rename_i f _;have there:Nice (fun w=>GStep.go {frame:=Frame.enter P f #[] .early,callers:=(if ((P.code? f).any P.plainData)=true then (P.brought w (2*P.funcs.size+1) [f] []).drop 1 else []).map (Frame.enter P · #[] .early)++fr::cs,status:= .running,dying:=dy} w):=by
    refine nice_of fun w=>?_;refine comp_at (n:=0) (w':=w) (nice_go (g:={frame:=Frame.enter P f #[] .early,callers:=(if ((P.code? f).any P.plainData)=true then (P.brought w (2*P.funcs.size+1) [f] []).drop 1 else []).map (Frame.enter P · #[] .early)++fr::cs,status:= .running,dying:=dy}) ⟨xY P f #[] .early,?_⟩) rfl rfl rfl (fun T d _=>by simp only[brought_re];try rfl)
    intro c hcm;rcases List.mem_append.1 hcm with h|h
    ·obtain⟨x,_,rfl⟩:=List.mem_map.1 h
     exact xY P x #[] .early
    ·rcases List.mem_cons.1 h with rfl|h
     ·exact hf
     ·exact hc c h
   split
   ·exact notYet
   ·refine nice_of fun w=>?_;refine zhW (c:=fun w=>(((P.code? f).bind fun c=>(readies c).getLast?).bind w.shape?).isSome) (fun T d=>rfl) (fun w=>rfl) (notYet w) ?_;cases hfo:P.found w P.funcs.size f with
    |unknown=>exact ends_at (by rw[hfo];exact⟨_,_,_,rfl⟩)
    |notYet=>
     cases hk:(fr.kind==CallKind.early) with
     |true=>exact ends_at (by rw[hfo];exact⟨_,_,_,rfl⟩)
     |false=>exact comp_at (n:=0) (w':=w) notYet rfl rfl (by rw[hfo];try rfl) (fun T d _=>by rw[ur,hfo];try rfl)
    |either=>
     cases hk:(fr.kind==CallKind.early) with
     |true=>exact comp_at (n:=0) (w':=w) there rfl rfl (by rw[hfo];try rfl) (fun T d _=>by rw[ur,hfo];try rfl)
     |false=>
      have rest:Nice (fun w=>if ((P.code? f).any P.plainData)=true then GStep.go {frame:=Frame.enter P f #[] .early,callers:=(if ((P.code? f).any P.plainData)=true then (P.brought w (2*P.funcs.size+1) [f] []).drop 1 else []).map (Frame.enter P · #[] .early)++fr::cs,status:= .running,dying:=dy} w
       else if (!(P.code? f).any P.bareCopy)=true then (match w.heap[g]? with
        |some (.pending c elem)=>GStep.go {frame:=fr,callers:=cs,status:= .running,dying:=dy} {w with heap:=w.heap.setIfInBounds g (.cells c elem)}
        |_=> .ended (.stuck "early: the variable does not wait" (fr.pos P)) w)
       else match (choose (.early g)).run P w with
        | .ok 0 w=>(match w.heap[g]? with
          |some (.pending c elem)=>GStep.go {frame:=fr,callers:=cs,status:= .running,dying:=dy} {w with heap:=w.heap.setIfInBounds g (.cells c elem)}
          |_=> .ended (.stuck "early: the variable does not wait" (fr.pos P)) w)
        | .ok _ w=>GStep.go {frame:=Frame.enter P f #[] .early,callers:=(if ((P.code? f).any P.plainData)=true then (P.brought w (2*P.funcs.size+1) [f] []).drop 1 else []).map (Frame.enter P · #[] .early)++fr::cs,status:= .running,dying:=dy} w
        | .halt _ w=> .ended (.stuck "early" (fr.pos P)) w):=by
       by_cases hpd:((P.code? f).any P.plainData)=true
       ·exact zP (fun w=>if_pos hpd) there
       ·refine zP (fun w=>if_neg hpd) ?_;by_cases hbc:(!(P.code? f).any P.bareCopy)=true
        ·exact zP (fun w=>if_pos hbc) notYet
        ·refine zP (fun w=>if_neg hbc) ?_;refine nice_of fun w=>?_;rcases point (w:=w) rfl (kI (P:=P) (.early g)) with⟨hh,w',es,he,e⟩|⟨h1,h2,n,h3,h4,h5⟩
         ·exact ends_at (by rw[xP,e];exact⟨_,_,_,rfl⟩)
         ·cases hr:((choose (.early g)).runT P w #[]).1 with
          |halt hh w'=>exact ends_at (by rw[xP,hr];exact⟨_,_,_,rfl⟩)
          |ok a w'=>
           rw[hr] at h3 h4 h5;cases a with
           |zero=>exact comp_at notYet h3 h4 (by rw[xP,hr];try rfl) (fun T d hT=>by rw[xP,h5 T d hT];try rfl)
           |succ a=>exact comp_at there h3 h4 (by rw[xP,hr];try rfl) (fun T d hT=>by rw[xP,h5 T d hT];try rfl)
      exact comp_at (n:=0) (w':=w) rest rfl rfl (by rw[hfo];try rfl) (fun T d _=>by rw[ur,hfo];try rfl)
theorem xW{es:Array Event}(h:Bal es)(k:CallKind):Bal (if (k==CallKind.early)=true then #[] else es):=by split<;>first|exact xo|exact h
theorem nice_apply{s:Sem Next}(hs:OkN P s){fr:Frame}{cs:List Frame}(hf:zy fr)(hc:∀c∈cs,zy c)(dy:Option Dying):Nice (fun w=>stepG.apply P true fr cs dy s w):=by
 refine nice_of fun w=>?_;obtain⟨x,hr⟩:∃x,s.runT P w #[]=x:=⟨_,rfl⟩
 have hcc:∀c∈fr::cs,zy c:=fun c h=>(List.mem_cons.1 h).elim (fun e=>e▸hf) (hc c);rcases point hr hs with⟨hh,w',es,he,rfl⟩|⟨h1,h2,n,h3,h4,h5⟩
 ·refine ends_at ?_;unfold stepG.apply;simp only[if_true,hr];cases hh with
  |unsupported u=>cases u<;>first|exact he.elim|exact⟨_,_,_,rfl⟩
  |stuck m=>exact⟨_,_,_,rfl⟩
  |_=>exact he.elim
 ·obtain⟨r,es⟩:=x
  simp only at h1 h2 h3 h4 h5
  cases r with
  |ok a w'=>
   obtain⟨hpost,hb⟩:=h1 a w' rfl
   have hb':=bal_seen (P:=P) (fn:=fr.fn) (xW hb fr.kind);have go:∀(g:Goroutine),zV g->g.status= .running->(∀w w',s.runT P w #[]=(.ok a w',es)->stepG.apply P true fr cs dy s w=GStep.after (seen P fr.fn (if (fr.kind==CallKind.early)=true then #[] else es)) (.go g w'))->xB (fun w=>stepG.apply P true fr cs dy s w) w:=fun g hg hst e=>
    comp_at (nice_after hb' (nice_go hg (by intro t;rw[hst];simp))) h3 h4 (e w w' hr) (fun T d hT=>e _ _ (h5 T d hT))
   cases a with
   |value v=>exact go {frame:=fr.finish v,callers:=cs,status:= .running,dying:=dy} ⟨zS hf v,hc⟩ rfl (fun w w' e=>by unfold stepG.apply;simp only[if_true,e];try rfl)
   |skip=>exact go {frame:=fr.finish undef,callers:=cs,status:= .running,dying:=dy} ⟨zS hf _,hc⟩ rfl (fun w w' e=>by unfold stepG.apply;simp only[if_true,e];try rfl)
   |enter f args=>exact go {frame:=Frame.enter P f args (match fr.todo with| .call _ true _ _::_=> .wrapped|_=> .normal),callers:=fr::cs,status:= .running,dying:=dy} ⟨xY _ _ _ _,hcc⟩ rfl (fun w w' e=>by unfold stepG.apply;simp only[if_true,e];try rfl)
   |round l f t as bd=>exact go {frame:=Frame.round l f t as bd .normal,callers:=fr::cs,status:= .running,dying:=dy} ⟨tame_round _ _ _ _ _ _,hcc⟩ rfl (fun w w' e=>by unfold stepG.apply;simp only[if_true,e];try rfl)
   |defer d=>exact go {frame:={fr with defers:=d::fr.defers}.finish undef,callers:=cs,status:= .running,dying:=dy} ⟨zS (fr:={fr with defers:=d::fr.defers}) hf _,hc⟩ rfl (fun w w' e=>by unfold stepG.apply;simp only[if_true,e];try rfl)
   |recover=>
    cases hro:fr.roundOf with
    |none=>
     cases hrec:tryRecover fr cs with
     |none=>exact go {frame:=fr.finish .nilIface,callers:=cs,status:= .running,dying:=dy} ⟨zS hf _,hc⟩ rfl (fun w w' e=>by unfold stepG.apply;simp only[if_true,e,hro,hrec];try rfl)
     |some y=>exact go {frame:=fr.finish y.1,callers:=y.2,status:= .running,dying:=dy} ⟨zS hf _,tame_recover cs fr y.1 y.2 hc hrec⟩ rfl (fun w w' e=>by unfold stepG.apply;simp only[if_true,e,hro,hrec];try rfl)
    |some l=>
     by_cases hfol:P.follows .rangeFuncRecover=true
     ·cases hrec:tryRecover fr cs with
      |none=>exact go {frame:=fr.finish .nilIface,callers:=cs,status:= .running,dying:=dy} ⟨zS hf _,hc⟩ rfl (fun w w' e=>by unfold stepG.apply;simp only[if_true,e,hro,hfol,hrec];try rfl)
      |some y=>exact go {frame:=fr.finish y.1,callers:=y.2,status:= .running,dying:=dy} ⟨zS hf _,tame_recover cs fr y.1 y.2 hc hrec⟩ rfl (fun w w' e=>by unfold stepG.apply;simp only[if_true,e,hro,hfol,hrec];try rfl)
     ·have hfol':P.follows .rangeFuncRecover=false:=by simpa using hfol
      cases hrec:tryRecoverLoop l cs with
      |none=>exact go {frame:=fr.finish .nilIface,callers:=cs,status:= .running,dying:=dy} ⟨zS hf _,hc⟩ rfl (fun w w' e=>by unfold stepG.apply;simp only[if_true,e,hro,hfol',hrec,Bool.false_eq_true,if_false];try rfl)
      |some y=>exact go {frame:=fr.finish y.1,callers:=y.2,status:= .running,dying:=dy} ⟨zS hf _,tame_recoverLoop cs l y.1 y.2 hc hrec⟩ rfl (fun w w' e=>by unfold stepG.apply;simp only[if_true,e,hro,hfol',hrec,Bool.false_eq_true,if_false];try rfl)
   |spawn d=>
    have sp:(∀w w',s.runT P w #[]=(.ok (.spawn d) w',es)->stepG.apply P true fr cs dy s w=GStep.after (seen P fr.fn (if (fr.kind==CallKind.early)=true then #[] else es)) (.spawn {frame:=fr.finish undef,callers:=cs,status:= .running,dying:=dy} {frame:={(default:Frame) with fn:=P.funcs.size,defers:=[d],mode:= .panicking [goexitEntry]},callers:=[],status:= .running,dying:=none} w'))->xB (fun w=>stepG.apply P true fr cs dy s w) w:=fun e=>
     comp_at (nice_after hb' (zcH _ _)) h3 h4 (e w w' hr) (fun T d' hT=>e _ _ (h5 T d' hT))
    cases hdt:d.target with
    |nil=>
     by_cases hn:(P.follows .goNilFatal&&true&&d.args.isEmpty&&fr.noResult P)=true
     ·refine comp_at (nice_after hb' (jx hf "go of nil func value")) h3 h4 ?_ (fun T d' hT=>?_)
      ·unfold stepG.apply;simp only[if_true,hr,hdt,hn];try rfl
      ·unfold stepG.apply;simp only[if_true,h5 T d' hT,mapW,hdt,hn];try rfl
     ·have hn':(P.follows .goNilFatal&&true&&d.args.isEmpty&&fr.noResult P)=false:=by simpa using hn
      exact sp (fun w w' e=>by unfold stepG.apply;simp only[if_true,e,hdt,hn',Bool.false_eq_true,if_false])
    |_=>exact sp (fun w w' e=>by unfold stepG.apply;simp only[if_true,e,hdt,Bool.and_false,Bool.false_and,Bool.false_eq_true,if_false])
   |comm c b sh=>exact comp_at (nice_after hb' (zdU (g:={frame:=fr,callers:=cs,status:= .running,dying:=dy}) ⟨hf,hc⟩ c b sh)) h3 h4 (by unfold stepG.apply;simp only[if_true,hr];try rfl) (fun T d hT=>by unfold stepG.apply;simp only[if_true,h5 T d hT];try rfl)
   |coroswitch c e=>exact comp_at (nice_after hb' (gx (g:={frame:=fr,callers:=cs,status:= .running,dying:=dy}) ⟨hf,hc⟩ c hpost)) h3 h4 (by unfold stepG.apply;simp only[if_true,hr];try rfl) (fun T d hT=>by unfold stepG.apply;simp only[if_true,h5 T d hT];try rfl)
   |row row args=>
    cases htd:fr.todo with
    |nil=>exact go {frame:=Frame.ofRow P row args .normal,callers:=fr::cs,status:= .running,dying:=dy} ⟨fun i hi=>by simp only[Frame.ofRow,List.mem_singleton] at hi;subst hi;exact hpost,hcc⟩ rfl (fun w w' e=>by unfold stepG.apply;simp only[if_true,e,htd];try rfl)
    |cons it k=>
     have hk:∀i∈k,yj i:=fun i hi=>hf i (by rw[htd];exact List.mem_cons_of_mem _ hi)
     cases it with
     |extern r' a'=>exact go {frame:={fr with todo:= .extern row args::k},callers:=cs,status:= .running,dying:=dy} ⟨fun i hi=>(List.mem_cons.1 hi).elim (fun e=>e▸hpost) (hk i),hc⟩ rfl (fun w w' e=>by unfold stepG.apply;simp only[if_true,e,htd];try rfl)
     |call d' wr r' sv=>exact False.elim (hf (.call d' wr r' sv) (by rw[htd];exact List.mem_cons_self ..))
     |_=>exact go {frame:=Frame.ofRow P row args .normal,callers:=fr::cs,status:= .running,dying:=dy} ⟨fun i hi=>by simp only[Frame.ofRow,List.mem_singleton] at hi;subst hi;exact hpost,hcc⟩ rfl (fun w w' e=>by unfold stepG.apply;simp only[if_true,e,htd];try rfl)
   |numGoroutine=>exact hpost.elim
   |collect=>exact hpost.elim
   |watch v=>exact hpost.elim
   |newcoro c d=>exact hpost.elim
   |sleep t=>exact hpost.elim
   |timer op=>exact hpost.elim
   |alone on v=>exact hpost.elim
   |callThen d r sv wr=>exact hpost.elim
   |stack r sv=>exact hpost.elim
  |halt hh w'=>
   obtain⟨hnf,hb⟩:=h2 hh w' rfl
   cases hh with
   |panic v=>exact comp_at (nice_after (bal_seen (P:=P) (fn:=fr.fn) (xW (hb trivial) fr.kind)) (nice_go (g:={frame:=fr.raise [{v,recovered:=false}],callers:=cs,status:= .running,dying:=dy}) ⟨tame_raise hf _,hc⟩)) h3 h4 (by unfold stepG.apply;simp only[if_true,hr];try rfl) (fun T d hT=>by unfold stepG.apply;simp only[if_true,h5 T d hT];try rfl)
   |goexit=>exact comp_at (nice_after (bal_seen (P:=P) (fn:=fr.fn) (xW (hb trivial) fr.kind)) (nice_go (g:={frame:=fr.raise [goexitEntry],callers:=cs,status:= .running,dying:=dy}) ⟨tame_raise hf _,hc⟩)) h3 h4 (by unfold stepG.apply;simp only[if_true,hr];try rfl) (fun T d hT=>by unfold stepG.apply;simp only[if_true,h5 T d hT];try rfl)
   |blocked=>exact comp_at (nice_after (bal_seen (P:=P) (fn:=fr.fn) (xW xo fr.kind)) (nice_go (g:={frame:=fr,callers:=cs,status:= .blocked,dying:=dy}) ⟨hf,hc⟩)) h3 h4 (by unfold stepG.apply;simp only[if_true,hr];try rfl) (fun T d hT=>by unfold stepG.apply;simp only[if_true,h5 T d hT];try rfl)
   |waiting=>exact comp_at (nice_after (bal_seen (P:=P) (fn:=fr.fn) (xW xo fr.kind)) (nice_go (g:={frame:=fr,callers:=cs,status:= .waiting,dying:=dy}) ⟨hf,hc⟩)) h3 h4 (by unfold stepG.apply;simp only[if_true,hr];try rfl) (fun T d hT=>by unfold stepG.apply;simp only[if_true,h5 T d hT];try rfl)
   |fatal m=>exact absurd rfl (hnf m)
   |exit c=>exact ends_at (by unfold stepG.apply;simp only[if_true,hr];exact⟨_,_,_,rfl⟩)
   |stuck m=>exact ends_at (by unfold stepG.apply;simp only[if_true,hr];exact⟨_,_,_,rfl⟩)
   |throw m=>exact comp_at (nice_after (bal_seen (P:=P) (fn:=fr.fn) (xW (hb trivial) fr.kind)) (jx hf m)) h3 h4 (by unfold stepG.apply;simp only[if_true,hr];try rfl) (fun T d hT=>by unfold stepG.apply;simp only[if_true,h5 T d hT];try rfl)
   |unsupported u=>
    cases u with
    |initOrder g=>exact comp_at (nice_after (bal_seen (P:=P) (fn:=fr.fn) (xW xo fr.kind)) (zcJ hf hc dy g)) h3 h4 (by unfold stepG.apply;simp only[if_true,hr];try rfl) (fun T d hT=>by unfold stepG.apply;simp only[if_true,h5 T d hT];try rfl)
    |_=>exact ends_at (by unfold stepG.apply;simp only[if_true,hr];exact⟨_,_,_,rfl⟩)
end
end Go.Bsd
namespace Go.Bsd
open Go.Conc
attribute [local irreducible] Safe
section
variable {P:Program}
theorem nice_doReturn{fr:Frame}{cs:List Frame}(hf:zy fr)(hc:∀c∈cs,zy c)(dy:Option Dying)(v:Value):Nice (fun w=>doReturn P true fr cs dy v w):=by
 unfold doReturn;cases cs with
 |cons c rest=>
  have h1:zy c:=hc c (List.mem_cons_self ..);have h2:∀x∈rest,zy x:=fun x hx=>hc x (List.mem_cons_of_mem _ hx);dsimp only;split
  ·exact nice_go ⟨zS h1 v,h2⟩
  ·exact nice_go ⟨zS h1 v,h2⟩
  ·exact nice_go ⟨h1,h2⟩
  ·refine nice_go ⟨?_,h2⟩;split
   ·split<;>exact h1
   ·exact h1
 |nil=>
  dsimp only;split
  ·exact nice_go ⟨hf,by simp⟩
  ·exact nice_ended _
  ·refine zP (fun w=>if_neg (by simp)) ?_
   split
   ·exact nice_go ⟨xY _ _ _ _,by simp⟩
   ·exact nice_ended _
theorem zbx(fn:Func)(tmps:Array Value):Any P (results fn tmps):=by
 unfold results;refine any_bind (qS (fun r=>?_) _) fun _=>any_pure _;split
 ·exact any_pure _
 ·exact any_bind (by simp) fun _=>by simp
theorem nice_callDeferred(hP:TameProg P){fr:Frame}{cs:List Frame}(hf:zy fr)(hc:∀c∈cs,zy c)(dy:Option Dying)(d:Deferred):Nice (fun w=>callDeferred P fr cs dy d w):=by
 unfold callDeferred;by_cases hcond:((d.target matches .nil)&&(fr.mode matches .panicking _))=true
 ·exact zP (fun w=>if_pos hcond) (nice_ended _)
 ·refine zP (fun w=>if_neg hcond) ?_;refine nice_of fun w=>?_;have hcc:∀c∈fr::cs,zy c:=fun c h=>(List.mem_cons.1 h).elim (fun e=>e▸hf) (hc c);obtain⟨x,hr⟩:∃x,(invoke d.target d.args).runT P w #[]=x:=⟨_,rfl⟩
  rcases point hr (okN_invoke hP d.target d.args) with⟨hh,w',es,he,rfl⟩|⟨h1,h2,n,h3,h4,h5⟩
  ·refine ends_at ?_;simp only[hr];cases hh<;>first|exact he.elim|exact⟨_,_,_,rfl⟩
  ·obtain⟨r,es⟩:=x
   simp only at h1 h2 h3 h4 h5
   cases r with
   |ok a w'=>
    obtain⟨hpost,hb⟩:=h1 a w' rfl
    have hb':=bal_seen (P:=P) (fn:=fr.fn) hb;cases a with
    |enter f args=>exact comp_at (nice_after hb' (nice_go (g:={frame:=Frame.enter P f args .deferred,callers:=fr::cs,status:= .running,dying:=dy}) ⟨xY _ _ _ _,hcc⟩)) h3 h4 (by simp only[hr];try rfl) (fun T d hT=>by simp only[h5 T d hT];try rfl)
    |round l f t as bd=>exact comp_at (nice_after hb' (nice_go (g:={frame:=Frame.round l f t as bd .deferred,callers:=fr::cs,status:= .running,dying:=dy}) ⟨tame_round _ _ _ _ _ _,hcc⟩)) h3 h4 (by simp only[hr];try rfl) (fun T d hT=>by simp only[h5 T d hT];try rfl)
    |row row args=>exact comp_at (nice_after hb' (nice_go (g:={frame:=Frame.ofRow P row args .deferred,callers:=fr::cs,status:= .running,dying:=dy}) ⟨fun i hi=>by simp only[Frame.ofRow,List.mem_singleton] at hi;subst hi;exact hpost,hcc⟩)) h3 h4 (by simp only[hr];try rfl) (fun T d hT=>by simp only[h5 T d hT];try rfl)
    |recover=>
     have hm:∀w,(match fr.mode,tryRecover fr cs with
      | .returning,some (_,callers)=>GStep.go {frame:=fr,callers,status:= .running,dying:=dy} w
      |_,_=> .go {frame:=fr,callers:=cs,status:= .running,dying:=dy} w)=GStep.go {frame:=fr,callers:=(match fr.mode,tryRecover fr cs with| .returning,some (_,callers)=>callers|_,_=>cs),status:= .running,dying:=dy} w:=by
      intro w;cases fr.mode<;>first|rfl|(cases tryRecover fr cs<;>rfl)
     refine comp_at (nice_after hb' (nice_go (g:={frame:=fr,callers:=(match fr.mode,tryRecover fr cs with| .returning,some (_,callers)=>callers|_,_=>cs),status:= .running,dying:=dy}) ⟨hf,?_⟩)) h3 h4 (by simp only[hr];rw[<-hm];try rfl) (fun T d hT=>by simp only[h5 T d hT];rw[<-hm];try rfl)
     dsimp only;split
     ·rename_i callers _ hrec;exact tame_recover cs fr _ callers hc hrec
     ·exact hc
    |coroswitch c e=>
     obtain rfl:e=true:=hpost;exact comp_at (nice_after hb' (gx (g:={frame:=fr,callers:=cs,status:= .running,dying:=dy}) ⟨hf,hc⟩ c rfl)) h3 h4 (by simp only[hr];try rfl) (fun T d hT=>by simp only[h5 T d hT];try rfl)
    |numGoroutine=>exact hpost.elim
    |collect=>exact hpost.elim
    |watch v=>exact hpost.elim
    |newcoro c d=>exact hpost.elim
    |sleep t=>exact hpost.elim
    |timer op=>exact hpost.elim
    |alone on v=>exact hpost.elim
    |callThen d r sv wr=>exact hpost.elim
    |stack r sv=>exact hpost.elim
    |_=>exact comp_at (nice_after hb' (nice_go (g:={frame:=fr,callers:=cs,status:= .running,dying:=dy}) ⟨hf,hc⟩)) h3 h4 (by simp only[hr];try rfl) (fun T d hT=>by simp only[h5 T d hT];try rfl)
   |halt hh w'=>
    obtain⟨hnf,hb⟩:=h2 hh w' rfl
    cases hh with
    |panic v=>exact comp_at (nice_after (bal_seen (P:=P) (fn:=fr.fn) (hb trivial)) (nice_go (g:={frame:=fr.raise [{v,recovered:=false}],callers:=cs,status:= .running,dying:=dy}) ⟨tame_raise hf _,hc⟩)) h3 h4 (by simp only[hr];try rfl) (fun T d hT=>by simp only[h5 T d hT];try rfl)
    |goexit=>exact comp_at (nice_after (bal_seen (P:=P) (fn:=fr.fn) (hb trivial)) (nice_go (g:={frame:=fr.raise [goexitEntry],callers:=cs,status:= .running,dying:=dy}) ⟨tame_raise hf _,hc⟩)) h3 h4 (by simp only[hr];try rfl) (fun T d hT=>by simp only[h5 T d hT];try rfl)
    |throw m=>exact comp_at (nice_after (bal_seen (P:=P) (fn:=fr.fn) (hb trivial)) (jx hf m)) h3 h4 (by simp only[hr];try rfl) (fun T d hT=>by simp only[h5 T d hT];try rfl)
    |blocked=>exact comp_at (nice_after (bal_seen (P:=P) (fn:=fr.fn) xo) (nice_go (g:={frame:={fr with defers:=d::fr.defers},callers:=cs,status:= .blocked,dying:=dy}) ⟨hf,hc⟩)) h3 h4 (by simp only[hr];try rfl) (fun T d hT=>by simp only[h5 T d hT];try rfl)
    |waiting=>exact comp_at (nice_after (bal_seen (P:=P) (fn:=fr.fn) xo) (nice_go (g:={frame:={fr with defers:=d::fr.defers},callers:=cs,status:= .waiting,dying:=dy}) ⟨hf,hc⟩)) h3 h4 (by simp only[hr];try rfl) (fun T d hT=>by simp only[h5 T d hT];try rfl)
    |fatal m=>exact absurd rfl (hnf m)
    |_=>exact ends_at (by simp only[hr];exact⟨_,_,_,rfl⟩)
theorem qj(hP:TameProg P){fr:Frame}{cs:List Frame}(hf:zy fr)(hc:∀c∈cs,zy c)(dy:Option Dying):Nice (fun w=>unwind P true fr cs dy w):=by
 unfold unwind;split
 ·rename_i block _ ds _;refine nice_run (P:=P) (post:=fun _=>True) (s:=Instr.takeDeferred block) (by simp) (fun r es=>GStep.after (seen P fr.fn es) (match r with
   | .ok calls w=> .go {frame:={fr with defers:=calls++ds},callers:=cs,status:= .running,dying:=dy} w
   | .halt _ w=> .ended (.stuck "the deferred calls of a range-over-func loop have been taken" (fr.pos P)) w)) (fun w=>rfl) ?_ ?_ ?_
  ·exact fun a es _ hb=>nice_after (bal_seen hb) (nice_go ⟨hf,hc⟩)
  ·exact fun h w es _=>⟨_,_,_,rfl⟩
  ·exact fun h es _ _ _=>fun w=> .inl ⟨_,_,_,rfl⟩
 ·rename_i d ds _ _;exact nice_callDeferred hP (fr:={fr with defers:=ds}) hf hc dy d
 ·split
  ·exact nice_ended _
  ·rename_i chain _;split
   ·exact nice_ended _
   ·split
    ·rename_i caller rest;exact nice_go ⟨tame_raise (hc caller (List.mem_cons_self ..)) _,fun x hx=>hc x (List.mem_cons_of_mem _ hx)⟩
    ·split
     ·split
      ·exact nice_go ⟨hf,by simp⟩
      ·refine nice_run (P:=P) (j0 chain false) (fun r _=>match r with
        | .ok todo w=> .go {frame:=fr,callers:=[],status:= .running,dying:=some {todo,texts:=[],calling:=false,pending:= "",runtimeError:=isRuntimeError P (chain.head?.map (·.v))} } w
        | .halt (.unsupported u) w=> .ended (.unsupported u "") w
        | .halt _ w=> .ended (.stuck "the report of a panic" "") w) (fun w=>by rw[xP];rfl) ?_ ?_ ?_
       ·exact fun a es _ _=>nice_go ⟨hf,by simp⟩
       ·intro h w es he;cases h<;>first|exact he.elim|exact⟨_,_,_,rfl⟩
       ·intro h es _ _ _ w;cases h<;>exact .inl ⟨_,_,_,rfl⟩
     ·split
      ·exact nice_printing hf _
      ·exact nice_ended _
  ·split
   ·exact nice_doReturn hf hc dy _
   ·rename_i fn _;refine nice_run (P:=P) (zbx fn fr.tmps) (fun r es=>GStep.after (seen P fr.fn es) (match r with
     | .ok v w=>doReturn P true fr cs dy v w
     | .halt (.stuck s) w=> .ended (.stuck s (fr.pos P)) w
     | .halt _ w=> .ended (.stuck "return: the result variables cannot be read" (fr.pos P)) w)) (fun w=>rfl) ?_ ?_ ?_
    ·exact fun a es _ hb=>nice_after (bal_seen hb) (nice_doReturn hf hc dy a)
    ·intro h w es he;cases h<;>exact⟨_,_,_,rfl⟩
    ·intro h es _ _ _ w;cases h<;>exact .inl ⟨_,_,_,rfl⟩
theorem next_print:Extern.next "runtime.print$piece" =some (Extern.PrintPieces.piece #[] #[]):=by kernel_rfl
theorem zdT(hP:TameProg P){fr:Frame}{cs:List Frame}(hf:zy fr)(hc:∀c∈cs,zy c)(dy:Option Dying):Nice (fun w=>stepG.oper P true fr cs dy w):=by
 unfold stepG.oper;split
 ·exact nice_ended _
 ·rename_i o _;have plain:=nice_apply (P:=P) (zcE hP fr.eval o) hf hc dy;split
  ·rename_i l c _ _;refine nice_apply (P:=P) ?_ hf hc dy;exact Safe.bnd' (je _ _ _) fun d=>Safe.bnd' (by simp) fun _=>okN_pure trivial
  ·exact plain
theorem zcI{fr:Frame}{cs:List Frame}(hf:zy fr)(hc:∀c∈cs,zy c)(dy:Option Dying)(jump:Option Code):Nice (fun w=>match fr.roundOf with
 |none=>if (match jump with|none=>true|some .ret=>true|_=>false)=true then GStep.go {frame:={fr with mode:= .returning},callers:=cs,status:= .running,dying:=dy} w else .ended (.stuck "exit, goto: no such block or label" (fr.pos P)) w
 |some l=>match (Instr.endRound l jump).runT P w #[] with
  |(r,es)=>GStep.after (seen P fr.fn es) (match r with
   | .ok v w=>doReturn P true fr cs dy v w
   | .halt _ w=> .ended (.stuck "range over a function: no such loop" (fr.pos P)) w)):=by
 cases fr.roundOf with
 |none=>
  dsimp only;generalize (match jump with|none=>true|some .ret=>true|_=>false)=b
  cases b with
  |true=>exact nice_go ⟨hf,hc⟩
  |false=>exact nice_ended _
 |some l=>
  refine nice_run (P:=P) (post:=fun _=>True) (s:=Instr.endRound l jump) (by simp) (fun r es=>GStep.after (seen P fr.fn es) (match r with
   | .ok v w=>doReturn P true fr cs dy v w
   | .halt _ w=> .ended (.stuck "range over a function: no such loop" (fr.pos P)) w)) (fun w=>rfl) ?_ ?_ ?_
  ·exact fun a es _ hb=>nice_after (bal_seen hb) (nice_doReturn hf hc dy a)
  ·exact fun h w es _=>⟨_,_,_,rfl⟩
  ·exact fun h es _ _ _=>fun w=> .inl ⟨_,_,_,rfl⟩
theorem vm(hP:TameProg P){fr:Frame}{cs:List Frame}(hf:zy fr)(hc:∀c∈cs,zy c)(dy:Option Dying):Nice (fun w=>stepG.exec P true true fr cs dy w):=by
 obtain⟨fn,tmps,todo,defers,mode,kind,ro⟩:=fr
 have tl:∀{x:Item} {k:List Item},todo=x::k->∀i∈k,yj i:=fun e i hi=>hf i (by show i∈todo;rw[e];exact List.mem_cons_of_mem _ hi)
 have to:∀(todo:List Item),(∀i∈todo,yj i)->Nice (fun w=>GStep.go {frame:=⟨fn,tmps,todo,defers,mode,kind,ro⟩,callers:=cs,status:= .running,dying:=dy} w):=fun todo h=>nice_go ⟨h,hc⟩;have leave:=fun jump=>zcI (P:=P) hf hc dy jump;unfold stepG.exec;dsimp only;cases todo with
 |nil=>exact leave none
 |cons it k=>
  have hk:=tl rfl;have cons:∀(x:Item) (l:List Item),yj x->(∀i∈l,yj i)->∀i∈x::l,yj i:=fun x l hx hl i hi=>(List.mem_cons.1 hi).elim (fun e=>e▸hx) (hl i);cases it with
  |code c=>
   cases c with
   |skip=>exact to k hk
   |region id ops draw=>
    dsimp only;cases draw with
    |false=>exact to _ (cons _ _ trivial hk)
    |true=>
     refine zP (fun w=>if_neg (by simp)) ?_
     refine nice_run (P:=P) (kI (.order fn id)) (fun r _=>match r with
      | .ok t w=> .go {frame:=⟨fn,tmps, .inRegion ops (Region.schedule (P.follows .mixedOrders) ops t)::k,defers,mode,kind,ro⟩,callers:=cs,status:= .running,dying:=dy} w
      | .halt _ w=> .ended (.stuck "order" (Frame.pos P ⟨fn,tmps, .code (.region id ops true)::k,defers,mode,kind,ro⟩)) w) (fun w=>by rw[xP];rfl) ?_ ?_ ?_
     ·exact fun a es _ _=>to _ (cons _ _ trivial hk)
     ·exact fun h w es _=>⟨_,_,_,rfl⟩
     ·exact fun h es _ _ _=>nice_ended _
   |seq a b=>exact to _ (cons _ _ trivial (cons _ _ trivial hk))
   |cond c thn els=>
    dsimp only;split
    ·exact to _ (cons _ _ trivial hk)
    ·exact nice_ended _
   |block id body=>exact to _ (cons _ _ trivial (cons _ _ trivial hk))
   |loop body=>exact to _ (cons _ _ trivial (cons _ _ trivial hk))
   |rangeFunc f params assign body=>
    dsimp only;refine nice_run (P:=P) (post:=fun _=>True) (s:=Instr.enterLoop fn tmps params assign body ro) (by simp) (fun r es=>GStep.after (seen P fn es) (match r with
     | .ok (l,mark) w=>stepG.apply P true ⟨fn,tmps, .inRangeFunc l::k,mark++defers,mode,kind,ro⟩ cs dy (do let d<-resolve (Frame.eval ⟨fn,tmps, .inRangeFunc l::k,mark++defers,mode,kind,ro⟩) {callee:= .value f,args:= #[.const (.func (.yield l) #[] #[])],argTypes:= #[]} 0;invoke d.target d.args) w
     | .halt _ w=> .ended (.stuck "range over a function: no such loop" (Frame.pos P ⟨fn,tmps, .code (.rangeFunc f params assign body)::k,defers,mode,kind,ro⟩)) w)) (fun w=>rfl) ?_ ?_ ?_
    ·intro a es _ hb;obtain⟨l,mark⟩:=a
     exact nice_after (bal_seen hb) (nice_apply (P:=P) (Safe.bnd' (je _ _ _) fun d=>okN_invoke hP d.target d.args) (fr:=⟨fn,tmps, .inRangeFunc l::k,mark++defers,mode,kind,ro⟩) (cons _ _ trivial hk) hc dy)
    ·exact fun h w es _=>⟨_,_,_,rfl⟩
    ·exact fun h es _ _ _=>fun w=> .inl ⟨_,_,_,rfl⟩
   |exit id=>
    dsimp only;cases he:exitTo id k with
    |none=>exact leave (some (.exit id))
    |some k'=>exact to k' (tame_exitTo id k k' hk he)
   |scope body=>exact to _ (cons _ _ trivial (cons _ _ trivial hk))
   |label l=>exact to k hk
   |goto l=>
    dsimp only;cases he:gotoIn l k with
    |none=>exact leave (some (.goto l))
    |some k'=>exact to k' (tame_gotoIn l k k' hk he)
   |ret=>exact leave (some .ret)
   |refuse why=>exact nice_ended _
  |inBlock id=>exact to k hk
  |inLoop body=>exact to _ (cons _ _ trivial (cons _ _ trivial hk))
  |inScope body=>exact to k hk
  |inRegion ops todo=>
   cases todo with
   |nil=>exact to k hk
   |cons i rest=>
    dsimp only;split
    ·exact zdT hP hf hc dy
    ·exact nice_go ⟨zS hf _,hc⟩
  |inRangeFunc l=>exact nice_ended _
  |endRangeFunc l=>
   dsimp only;refine nice_run (P:=P) (post:=fun _=>True) (s:=Instr.endLoop l) (by simp) (fun r es=>GStep.after (seen P fn es) (match r with
    | .ok jump w=> .go {frame:=⟨fn,tmps,(jump.map Item.code).toList++k,defers,mode,kind,ro⟩,callers:=cs,status:= .running,dying:=dy} w
    | .halt (.panic v) w=> .go {frame:=Frame.raise ⟨fn,tmps, .endRangeFunc l::k,defers,mode,kind,ro⟩ [{v,recovered:=false}],callers:=cs,status:= .running,dying:=dy} w
    | .halt _ w=> .ended (.stuck "range over a function: no such loop" (Frame.pos P ⟨fn,tmps, .endRangeFunc l::k,defers,mode,kind,ro⟩)) w)) (fun w=>rfl) ?_ ?_ ?_
   ·intro a es _ hb;refine nice_after (bal_seen hb) (to _ ?_);cases a with
    |none=>exact hk
    |some c=>exact cons _ _ trivial hk
   ·intro h w es he;cases h<;>first|exact he.elim|exact⟨_,_,_,rfl⟩
   ·intro h es hb _ _;cases h with
    |panic v=>exact nice_after (bal_seen (hb trivial)) (nice_go ⟨tame_raise hf _,hc⟩)
    |_=>exact fun w=> .inl ⟨_,_,_,rfl⟩
  |beginRound=>
   refine nice_apply (P:=P) ?_ hf hc dy;refine Safe.bnd' ?_ fun _=>okN_pure trivial;cases ro with
   |none=>exact any_stuck _
   |some l=>exact kK l
  |call d wr rs sv=>exact False.elim (hf (.call d wr rs sv) (List.mem_cons_self ..))
  |extern row args=>
   have hrow:row= "runtime.print$piece" :=hf (.extern row args) (List.mem_cons_self ..);subst hrow;refine zP (fun w=>by simp only[next_print,Option.elim_some]) (nice_apply (P:=P) (okN_piece #[] #[] args) hf hc dy)
end
theorem nice_step{P:Program}(hP:TameProg P){g:Goroutine}(hg:zV g):Nice (fun w=>stepG P true g w):=by
 obtain⟨fr,cs,st,dy,off⟩:=g
 obtain⟨hf,hc⟩:=hg
 simp only at hf hc
 have rest:Nice (fun w=>match fr.mode with| .run=>stepG.exec P true true fr cs dy w|_=>unwind P true fr cs dy w):=by
  cases fr.mode with
  |run=>exact vm hP hf hc dy
  |_=>exact qj hP hf hc dy
 cases dy with
 |none=>
  cases hm:fr.mode with
  |run=>exact zP (fun w=>by unfold stepG;simp only[hm]) (vm hP hf hc none)
  |returning=>exact zP (fun w=>by unfold stepG;simp only[hm]) (qj hP hf hc none)
  |panicking ch=>exact zP (fun w=>by unfold stepG;simp only[hm]) (qj hP hf hc none)
 |some d=>
  cases hcl:d.calling with
  |false=>exact zP (fun w=>by unfold stepG;obtain⟨td,tx,cl,pd,re,hd,ft⟩:=d;simp only at hcl;subst hcl;rfl) (zfR hP hf d)
  |true=>
   cases hm:fr.mode with
   |run=>exact zP (fun w=>by unfold stepG;obtain⟨td,tx,cl,pd,re,hd,ft⟩:=d;simp only at hcl;subst hcl;simp only[hm]) (vm hP hf hc (some d))
   |returning=>exact zP (fun w=>by unfold stepG;obtain⟨td,tx,cl,pd,re,hd,ft⟩:=d;simp only at hcl;subst hcl;simp only[hm]) (qj hP hf hc (some d))
   |panicking ch=>exact zP (fun w=>by unfold stepG;obtain⟨td,tx,cl,pd,re,hd,ft⟩:=d;simp only at hcl;subst hcl;simp only[hm]) (qj hP hf hc (some d))
end Go.Bsd
namespace Go.Bsd
open Go.Conc
def kx(gs:Array Goroutine):Prop:=∀r s,partners gs r s=[]
theorem zbL{gs:Array Goroutine}(h:kx gs)(w:World)(c:CommCase):ways w gs c=ways w #[] c:=by
 have h0:∀r s,partners #[] r s=[]:=fun r s=>rfl;have h1:∀r s,partners gs r s=[]:=h;unfold ways;simp only[h1,h0]
def QuietOps(i:Nat)(ops:Array MemOp):Prop:=∀op∈ops,op.g=i/\op.act.touch? =none/\op.act≠ .mark .disable/\op.act≠ .mark .enable
def NotPartner:Way->Prop
 | .partner _ _=>False
 |_=>True
theorem ze8(w:World)(c:CommCase):∀y∈ways w #[] c,NotPartner y:=by
 have h0:∀r s,partners #[] r s=[]:=fun r s=>rfl;intro y hy;unfold ways at hy;simp only[h0] at hy
 repeat' first|(split at hy)|(simp at hy;done)|(simp only[List.mem_singleton] at hy;subst hy;exact trivial)
theorem comm_two{P:Program}{rest1 rest2:Rest}(t1:rest1.timers= #[])(t2:rest2.timers= #[]){gs1 gs2:Array Goroutine}(n1:kx gs1)(n2:kx gs2)(i:Nat){g:Goroutine}(hg:zV g)(haw:awake g)
 (cases:Array CommCase) (b:Bool) (sh:CommShape) (w:World):
 (∃o w' ops,communicate P rest1 gs1 i g cases b sh w=(.ended o w',ops))\/
 ∃g' w' ops n,(zV g'/\awake g')/\QuietOps i ops/\w'.tape=w.tape/\w'.drawn=w.drawn+n/\
  communicate P rest1 gs1 i g cases b sh w=(.next {world:=w',gs:=gs1.setIfInBounds i g',rest:=rest1},ops)/\
  communicate P rest2 gs2 i g cases b sh w=(.next {world:=w',gs:=gs2.setIfInBounds i g',rest:=rest2},ops)/\
  ∀T d,zJ w n T d->communicate P rest1 gs1 i g cases b sh (re w T d)=(.next {world:=re w' T (d+n),gs:=gs1.setIfInBounds i g',rest:=rest1},ops):=by
 have tf:∀(k:Int) (v:Value) (ok:Bool),zV (g.finishComm P cases sh k v ok)/\awake (g.finishComm P cases sh k v ok):=fun k v ok=>⟨⟨zS hg.1 _,hg.2⟩,by intro t;simp[Goroutine.finishComm]⟩
 have ta1:∀m,timerAhead rest1 m cases=false:=by
  intro m;unfold timerAhead;rw[Array.any_eq_false];intro k hk
  split<;>simp[t1]
 have ta2:∀m,timerAhead rest2 m cases=false:=by
  intro m;unfold timerAhead;rw[Array.any_eq_false];intro k hk
  split<;>simp[t2]
 have hwr:∀T d c,ways (re w T d) #[] c=ways w #[] c:=fun T d c=>rfl;have n1':∀r s,partners gs1 r s=[]:=n1;have n2':∀r s,partners gs2 r s=[]:=n2;unfold communicate;simp only[zbL n1,zbL n2,n1',n2',waitingAt,ta1,ta2,hwr,re_heap,Bool.false_eq_true,if_false];split
 ·exact .inl ⟨_,_,_,rfl⟩
 ·split
  ·split
   ·exact .inr ⟨{g with status:= .blocked,offers:=some (cases,sh)},w,#[],0,⟨hg,by intro t;simp⟩,by simp[QuietOps],rfl,rfl,rfl,rfl,fun T d _=>rfl⟩
   ·exact .inr ⟨g.finishComm P cases sh (-1) undef false,w,#[],0,tf _ _ _,by simp[QuietOps],rfl,rfl,rfl,rfl,fun T d _=>rfl⟩
  ·have hR:∀x∈List.filter (fun x:Nat×CommCase×List Way=>!x.2.2.isEmpty) (List.map (fun x:CommCase×Nat=>(x.2,x.1,ways w #[] x.1)) cases.zipIdx.toList),∀y∈x.2.2,NotPartner y:=by
    intro x hx y hy;obtain⟨z,_,rfl⟩:=List.mem_map.1 (List.mem_filter.1 hx).1
    exact ze8 w _ y hy
   generalize List.filter (fun x:Nat×CommCase×List Way=>!x.2.2.isEmpty) (List.map (fun x:CommCase×Nat=>(x.2,x.1,ways w #[] x.1)) cases.zipIdx.toList)=R at hR;simp only[xP];have hsafe:Safe P (fun x:Nat×CommCase×Way=>NotPartner x.2.2) 0 (do
    let a<-choose (.select R.length)
    let b<-choose (.extern "which waiting goroutine is the partner" (R.getD a (0,default,[])).2.2.length)
    pure ((R.getD a (0,default,[])).1,(R.getD a (0,default,[])).2.1,(R.getD a (0,default,[])).2.2.getD b .closed)):=by
    intro a b;refine⟨rfl,?_⟩;show NotPartner ((R.getD a (0,default,[])).2.2.getD b .closed);rw[List.getD_eq_getElem?_getD];cases hb:(R.getD a (0,default,[])).2.2[b]? with
    |none=>trivial
    |some y=>
     have hy:=List.mem_of_getElem? hb;rw[List.getD_eq_getElem?_getD] at hy;cases ha:R[a]? with
     |none=>rw[ha] at hy;simp at hy
     |some x=>rw[ha] at hy;exact hR x (List.mem_of_getElem? ha) y hy
   rcases point (w:=w) rfl hsafe with⟨h,w',es,he,e⟩|⟨h1,h2,n,h3,h4,h5⟩
   ·rw[e];exact .inl ⟨_,_,_,rfl⟩
   ·generalize hr:Sem.runT P _ w #[]=r at h1 h2 h3 h4 h5⊢;obtain⟨r,es⟩:=r
    cases r with
    |halt h w'=>exact .inl ⟨_,_,_,rfl⟩
    |ok x w'=>
     obtain⟨k,c,way⟩:=x
     have hw:=(h1 _ w' rfl).1;simp only at h3 h4 h5
     have hh5:∀T d,(re w' T d).heap=w'.heap:=fun T d=>rfl;cases way with
     |partner h k'=>exact hw.elim
     |closed=>
      refine .inr ⟨g.finishComm P cases sh k c.zero false,w',#[{g:=i,fn:=g.frame.fn,pos:=g.frame.place,act:= .recvClosed (match c.chan with| .chan (some r)=>r|_=>0)}],n,tf _ _ _,?_,h3,h4,rfl,rfl,fun T d hT=>by rw[h5 T d hT];rfl⟩
      intro op hop;simp only[List.mem_toArray,List.mem_singleton] at hop;subst hop;exact⟨rfl,rfl,by simp,by simp⟩
     |sendClosed=>
      have hp:∀w:World,((runtimePanic (.plain "send on closed channel"):Sem Unit).runT P w #[]).1= .halt (.panic (.iface P.rt.plainError (strVal "send on closed channel"))) w:=fun w=>rfl;refine .inr ⟨{g with frame:=g.frame.raise [{v:= .iface P.rt.plainError (strVal "send on closed channel"),recovered:=false}]},w',#[],n,⟨⟨tame_raise hg.1 _,hg.2⟩,haw⟩,by simp[QuietOps],h3,h4,?_,?_,fun T d hT=>?_⟩
      ·dsimp only;rw[hp]
      ·dsimp only;rw[hp]
      ·rw[h5 T d hT];dsimp only [mapW];rw[hp]
     |buffer=>
      obtain⟨ch,sd,z⟩:=c
      cases ch
      case chan o=>
       cases o;all_goals
        dsimp only;generalize hx:w'.heap[(_:Nat)]? =ob;cases ob with
        |none=>exact .inl ⟨_,_,_,rfl⟩
        |some o=>
         cases o with
         |chan cap buf closed sent rcvd tm=>
          cases sd with
          |some v=>
           refine .inr ⟨_,_,_,n,?_,?_,?_,?_,rfl,rfl,fun T d hT=>?_⟩
           ·exact tf _ _ _
           ·intro op hop;simp only[List.mem_toArray,List.mem_cons,List.not_mem_nil,or_false] at hop;rcases hop with rfl|rfl<;>exact⟨rfl,rfl,by simp,by simp⟩
           ·exact h3
           ·exact h4
           ·rw[h5 T d hT];dsimp only [mapW];rw[hh5,hx];rfl
          |none=>
           refine .inr ⟨_,_,_,n,?_,?_,?_,?_,rfl,rfl,fun T d hT=>?_⟩
           ·exact tf _ _ _
           ·intro op hop;simp only[List.mem_toArray,List.mem_cons,List.not_mem_nil,or_false] at hop;rcases hop with rfl|rfl<;>exact⟨rfl,rfl,by simp,by simp⟩
           ·exact h3
           ·exact h4
           ·rw[h5 T d hT];dsimp only [mapW];rw[hh5,hx];rfl
         |_=>exact .inl ⟨_,_,_,rfl⟩
      all_goals
       dsimp only;generalize hx:w'.heap[(_:Nat)]? =ob;cases ob with
       |none=>exact .inl ⟨_,_,_,rfl⟩
       |some o=>
        cases o with
        |chan cap buf closed sent rcvd tm=>
         cases sd with
         |some v=>
          refine .inr ⟨_,_,_,n,?_,?_,?_,?_,rfl,rfl,fun T d hT=>?_⟩
          ·exact tf _ _ _
          ·intro op hop;simp only[List.mem_toArray,List.mem_cons,List.not_mem_nil,or_false] at hop;rcases hop with rfl|rfl<;>exact⟨rfl,rfl,by simp,by simp⟩
          ·exact h3
          ·exact h4
          ·rw[h5 T d hT];dsimp only [mapW];rw[hh5,hx];rfl
         |none=>
          refine .inr ⟨_,_,_,n,?_,?_,?_,?_,rfl,rfl,fun T d hT=>?_⟩
          ·exact tf _ _ _
          ·intro op hop;simp only[List.mem_toArray,List.mem_cons,List.not_mem_nil,or_false] at hop;rcases hop with rfl|rfl<;>exact⟨rfl,rfl,by simp,by simp⟩
          ·exact h3
          ·exact h4
          ·rw[h5 T d hT];dsimp only [mapW];rw[hh5,hx];rfl
        |_=>exact .inl ⟨_,_,_,rfl⟩
end Go.Bsd
namespace Go.Bsd
open Go.Conc
def kv(gs:Array Goroutine):Prop:=∀(j:Nat) (x:Goroutine),0<j->gs[j]? =some x->x.status= .running\/x.status= .finished
def jP(ops:Array MemOp):Prop:=(∀op∈ops,op.g=0)/\∀t,Deaf (t++ops) 0=Deaf t 0
theorem zcD{a b:Array MemOp}(ha:jP a)(hb:jP b):jP (a++b):=⟨fun op h=>(Array.mem_append.1 h).elim (ha.1 op) (hb.1 op),fun t=>by rw[<-Array.append_assoc,hb.2,ha.2]⟩
theorem qn{fn:FuncId}{pos:String}{es:Array Event}(h:Bal es):jP (MemOp.ofEvents 0 fn pos es):=⟨fun op hop=>by obtain⟨e,_,rfl⟩:=Go.Conc.mem_ofEvents hop;rfl,fun t=>by rw[Deaf_own];exact h.1 _⟩
theorem zam{ops:Array MemOp}(h:QuietOps 0 ops):jP ops:=by
 refine⟨fun op hop=>(h op hop).1,fun t=>?_⟩;have e:t++ops=t++ops.toList.toArray:=by simp
 rw[e,Deaf_append];have:∀(l:List MemOp) (d:Nat),(∀op∈l,op.act≠ .mark .disable/\op.act≠ .mark .enable)->l.foldl (deafStep 0) d=d:=by
  intro l;induction l with
  |nil=>intros;rfl
  |cons x l ih=>
   intro d hl;obtain⟨h1,h2⟩:=hl x (List.mem_cons_self ..)
   rw[List.foldl_cons];have e1:deafStep 0 d x=d:=by
    unfold deafStep;split
    ·rename_i e;exact absurd e h1
    ·rename_i e;exact absurd e h2
    ·rfl
   rw[e1];exact ih d fun op hop=>hl op (List.mem_cons_of_mem _ hop)
 exact this _ _ fun op hop=>(h op (Array.mem_toList_iff.1 hop)).2.2
theorem gY{P:Program}{gs:Array Goroutine}(h:kv gs)(g g':Goroutine)(w':World)(x:Goroutine):(gs.map (woken P g g' w')).setIfInBounds 0 x=gs.setIfInBounds 0 x:=by
 apply Array.ext_getElem?;intro j;rcases Nat.eq_zero_or_pos j with rfl|hj
 ·by_cases hs:0<gs.size
  ·rw[Array.getElem?_setIfInBounds_self_of_lt (by simpa using hs),Array.getElem?_setIfInBounds_self_of_lt hs]
  ·rw[Array.getElem?_eq_none (by simpa using hs),Array.getElem?_eq_none (by simpa using hs)]
 ·rw[Array.getElem?_setIfInBounds_ne (by omega),Array.getElem?_setIfInBounds_ne (by omega),Array.getElem?_map]
  cases hx:gs[j]? with
  |none=>rfl
  |some y=>
   simp only[Option.map_some,Option.some.injEq];unfold woken;split
   ·exact again_running _ (h j y hj hx)
   ·rfl
theorem qQ{gs:Array Goroutine}(h:kv gs)(x:Goroutine)(hx:x.status= .finished):kx (gs.setIfInBounds 0 x):=by
 intro r s;refine partners_nil fun j g hg=>offersAt_of_not_blocked ?_ r s;rcases Nat.eq_zero_or_pos j with rfl|hj
 ·by_cases hs:0<gs.size
  ·rw[Array.getElem?_setIfInBounds_self_of_lt hs] at hg;cases hg;rw[hx];simp
  ·rw[Array.getElem?_eq_none (by simpa using hs)] at hg;cases hg
 ·rw[Array.getElem?_setIfInBounds_ne (by omega)] at hg
  rcases h j g hj hg with e|e<;>rw[e]<;>simp
theorem step_solo{P:Program}{g:Goroutine}{w:World}(h:g.status= .running):step P (solo g w)=(runT P (solo g w) 0).1:=by rw[step,stepT_solo h]
theorem others_solo(g:Goroutine):kv #[g]:=fun j x hj hx=>by
 rw[Array.getElem?_eq_none (by simp;omega)] at hx;cases hx
theorem mod0(gs:Array Goroutine)(x y:Goroutine)(f:Goroutine->Goroutine):((gs.setIfInBounds 0 y).setIfInBounds 0 x).modify 0 f=gs.setIfInBounds 0 (f x):=by
 apply Array.ext_getElem?;intro j;rw[Array.getElem?_modify];rcases Nat.eq_zero_or_pos j with rfl|hj
 ·by_cases hs:0<gs.size
  ·simp[hs]
  ·have:gs.size=0:=by omega
   simp[this]
 ·have:0≠j:=by omega
  simp[this,Array.getElem?_setIfInBounds_ne this]
theorem modS(x y:Goroutine)(h:Nat)(f:Goroutine->Goroutine):(((#[y]:Array Goroutine).setIfInBounds 0 ph).setIfInBounds 0 x).modify (h+1) f= #[x]:=by
 apply Array.ext_getElem?;intro j;rw[Array.getElem?_modify];rcases Nat.eq_zero_or_pos j with rfl|hj
 ·simp
 ·have:(((#[y]:Array Goroutine).setIfInBounds 0 ph).setIfInBounds 0 x)[j]? =none:=Array.getElem?_eq_none (by simp;omega)
  rw[this,Array.getElem?_eq_none (by simp;omega)]
  split<;>rfl
theorem own_step{P:Program}(hP:TameProg P){g:Goroutine}(hg:zV g)(hrun:g.status= .running)(w:World):
 (∃o w',step P (solo g w)= .ended o w')\/(∃m,step P (solo g w)= .next m/\m.gs.size=2)\/(∃g' w',step P (solo g w)= .next (solo g' w')/\g'.status= .finished)\/
 ∃g' w' n,(zV g'/\awake g')/\w'.tape=w.tape/\w'.drawn=w.drawn+n/\step P (solo g w)= .next (solo g' w')/\
  (∀T d,zJ w n T d->step P (solo g (re w T d))= .next (solo g' (re w' T (d+n))))/\
  ∀gs sl,gs[0]? =some g->kv gs->∃ops,runT P (crowd gs w sl) 0=(.next (crowd (gs.setIfInBounds 0 g') w' sl),ops)/\jP ops:=by
 simp only[step_solo hrun];rcases nice_step hP hg w with⟨o,w',es,e⟩|⟨hf,n,h1,h2,h3⟩
 ·exact .inl ⟨o,w',by rw[solo_eq_crowd,runT_many_ended (by rfl) e]⟩
 ·dsimp only at hf h1 h2 h3
  cases hs:stepG P true g w with
  |go g' w' es=>
   rw[hs] at hf h1 h2 h3;refine .inr (.inr (.inr ⟨g',w',n,⟨hf.1,hf.2.2⟩,h1,h2,by rw[runT_solo_go hs],fun T d hT=>by rw[runT_solo_go (h3 T d hT)],fun gs sl h0 ho=>⟨MemOp.ofEvents 0 g.frame.fn g.frame.place es,?_,qn hf.2.1⟩⟩))
   have:=runT_crowd_go (P:=P) (w:=w) (sl:=sl) (i:=0) h0 (show stepG P (0==0) g w=_ from hs)
   rw[gY ho] at this;exact this
  |comm g' cs b sh w' es=>
   rw[hs] at hf h1 h2 h3;have c1:=runT_crowd_comm (P:=P) (gs:= #[g]) (w:=w) (sl:=none) (i:=0) (g:=g) rfl (show stepG P (0==0) g w=_ from hs);have hno1:kx ((#[g]:Array Goroutine).setIfInBounds 0 ph):=qQ (others_solo g) ph rfl;have two:=fun(gs:Array Goroutine) (sl:Option (Nat×Nat)) (ho:kv gs)=>comm_two (P:=P) (rest1:=(crowd #[g] w none).rest) (rest2:=(crowd gs w sl).rest) rfl rfl hno1 (qQ ho ph rfl) 0 hf.1 hf.2.2 cs b sh w';rcases two #[g] none (others_solo g) with⟨o,w'',ops,e⟩|⟨g'',w'',ops,m,ht,hq,e1,e2,e3,_,e5⟩
   ·left;exact⟨o,w'',by rw[solo_eq_crowd,c1,e]⟩
   ·right;right;right
    refine⟨g'',w'',n+m,ht,e1.trans h1,by rw[e2];simp only[wOf] at h2;rw[h2];omega,?_,fun T d hT=>?_,fun gs sl h0 ho=>?_⟩
    ·rw[solo_eq_crowd,c1,e3];rfl
    ·obtain⟨f1,f2⟩:=hT.split w' h1 h2
     have c2:=runT_crowd_comm (P:=P) (gs:= #[g]) (w:=re w T d) (sl:=none) (i:=0) (g:=g) rfl (show stepG P (0==0) g (re w T d)=_ from h3 T d f1);have e6:=e5 T (d+n) f2;rw[solo_eq_crowd,c2];show(communicate P (crowd #[g] w none).rest _ 0 g' cs b sh (re w' T (d+n))).1=_
     rw[e6,<-Nat.add_assoc];rfl
    ·have c2:=runT_crowd_comm (P:=P) (gs:=gs) (w:=w) (sl:=sl) (i:=0) h0 (show stepG P (0==0) g w=_ from hs);rcases two gs sl ho with⟨o,w3,ops3,e⟩|⟨g3,w3,ops3,m3,ht3,hq3,_,_,a3,a4,_⟩
     ·rw[e] at e3;cases e3
     ·rw[a3] at e3;simp only[Prod.mk.injEq,Stepped.next.injEq,Machine.mk.injEq,and_true] at e3;obtain⟨⟨rfl,eg⟩,rfl⟩:=e3
      have eg':g3=g'':=by simpa using eg
      subst eg';refine⟨MemOp.ofEvents 0 g.frame.fn g.frame.place es++ops3,?_,zcD (qn hf.2.1) (zam hq)⟩;rw[c2,a4];simp[crowd]
  |spawn g' c w' es=>exact .inr (.inl ⟨_,by rw[runT_solo_spawn hs],rfl⟩)
  |coroswitch g' c e w' es=>
   rw[hs] at hf h1 h2 h3;obtain⟨rfl,ht,hb,_⟩:=hf
   have run:∀(gs:Array Goroutine) (sl:Option (Nat×Nat)) (v w1:World),gs[0]? =some g->stepG P true g v= .coroswitch g' c true w1 es->
    runT P (crowd gs v sl) 0=((match w1.heap[c]? with
     |some (.coro (some h))=> .next {world:={w1 with heap:=w1.heap.setIfInBounds c (.coro none)},gs:=((gs.setIfInBounds 0 ph).setIfInBounds 0 {g' with status:= .finished}).modify h (fun o=>{o with status:= .running}),rest:=(crowd gs v sl).rest}
     |some (.coro none)=>(match endThrow g'.frame "coroswitch on exited coro" w1 with
      | .go g w _=> .next {world:=w,gs:=(gs.setIfInBounds 0 ph).setIfInBounds 0 g,rest:=(crowd gs v sl).rest}
      |_=> .ended (.stuck "" "") w1)
     |_=> .ended (.stuck "coroswitch: no coroutine" "") w1),MemOp.ofEvents 0 g.frame.fn g.frame.place es):=by
    intro gs sl v w1 h0 hst;obtain⟨hlt,rfl⟩:=Array.getElem?_eq_some_iff.1 h0
    have hsw:=swapAt_of_lt hlt {(default:Goroutine) with status:= .finished};have hset:gs.set 0 {(default:Goroutine) with status:= .finished}=gs.setIfInBounds 0 ph:=by simp[Array.setIfInBounds,hlt,ph]
    show runT P {world:=v,gs:=gs,rest:={timers:= #[],alone:=none,slice:=sl} } 0=_;unfold runT;have hst':stepG P (0==0) gs[0] v= .coroswitch g' c true w1 es:=hst;simp only[hsw,hst',GStep.es,hset,crowd];rfl
   have r1:=run #[g] none w w' rfl hs;rw[<-solo_eq_crowd] at r1;cases hx:w'.heap[c]? with
   |none=>exact .inl ⟨_,_,by rw[r1,hx]⟩
   |some o=>
    cases o with
    |coro p=>
     cases p with
     |none=>
      refine .inr (.inr (.inr ⟨{frame:=g'.frame,callers:=[],status:= .running,dying:=some {todo:=[],texts:=[],calling:=false,pending:= "",runtimeError:=false,fatal:=some {pieces:=[]++bytes "fatal error: " ::indentedPieces (bytes "coroswitch on exited coro")++[bytes "\n"],text:= "coroswitch on exited coro",whole:=false,begun:=false} } },w',n,⟨⟨ht.1,by simp⟩,by intro t;simp⟩,h1,h2,?_,fun T d hT=>?_,fun gs sl h0 ho=>⟨MemOp.ofEvents 0 g.frame.fn g.frame.place es,?_,qn hb⟩⟩))
      ·rw[r1,hx];rfl
      ·have:=run #[g] none (re w T d) (re w' T (d+n)) rfl (h3 T d hT)
       rw[<-solo_eq_crowd,re_heap,hx] at this;rw[this];rfl
      ·have:=run gs sl w w' h0 hs
       rw[hx] at this;rw[this];simp[endThrow,dieOf,crowd]
     |some h=>
      cases h with
      |zero=>
       refine .inr (.inr (.inr ⟨{g' with status:= .running},{w' with heap:=w'.heap.setIfInBounds c (.coro none)},n,⟨ht,by intro t;simp⟩,h1,h2,?_,fun T d hT=>?_,fun gs sl h0 ho=>⟨MemOp.ofEvents 0 g.frame.fn g.frame.place es,?_,qn hb⟩⟩))
       ·rw[r1,hx];dsimp only;rw[mod0];rfl
       ·have:=run #[g] none (re w T d) (re w' T (d+n)) rfl (h3 T d hT)
        rw[<-solo_eq_crowd,re_heap,hx] at this;rw[this];dsimp only;rw[mod0];rfl
       ·have:=run gs sl w w' h0 hs
        rw[hx] at this;rw[this];dsimp only;rw[mod0];rfl
      |succ h=>
       refine .inr (.inr (.inl ⟨{g' with status:= .finished},{w' with heap:=w'.heap.setIfInBounds c (.coro none)},?_,rfl⟩));rw[r1,hx];dsimp only;rw[modS];rfl
    |_=>exact .inl ⟨_,_,by rw[r1,hx]⟩
  |ended o w' es=>exact .inl ⟨o,w',by rw[solo_eq_crowd,runT_many_ended (by rfl) hs]⟩
  |count g' w' es=>rw[hs] at hf;exact hf.elim
  |timer g' op w' es=>rw[hs] at hf;exact hf.elim
  |alone g' on w' es=>rw[hs] at hf;exact hf.elim
  |newcoro g' c d w' es=>rw[hs] at hf;exact hf.elim
  |collect g' w' es=>rw[hs] at hf;exact hf.elim
  |watch g' w' es=>rw[hs] at hf;exact hf.elim
end Go.Bsd
namespace Go.Bsd
open Go.Conc
theorem step_dead{P:Program}{g:Goroutine}{w:World}(h:g.status≠ .running)(ha:awake g):
 (∃o w',step P (solo g w)= .ended o w')\/step P (solo g w)= .next (solo g w):=by
 have h':g.status= .blocked\/g.status= .waiting\/g.status= .finished\/g.status= .parked:=by
  cases hs:g.status with
  |running=>exact absurd hs h
  |sleeping t=>exact absurd hs (ha t)
  |blocked=>exact .inl rfl
  |waiting=>exact .inr (.inl rfl)
  |parked=>exact .inr (.inr (.inr rfl))
  |finished=>exact .inr (.inr (.inl rfl))
 have hr:runnable (solo g w).gs (solo g w).world.os.mono=[]:=by
  rw[runnable_eq];rcases h' with h|h|h|h<;>simp[solo,Goroutine.canRun,h]
 have hd:due (solo g w).rest.timers (solo g w).world.os.mono=[]:=by simp[due,solo]
 have had:ahead (solo g w) false=none:=by
  rcases h' with h|h|h|h<;>simp[ahead,solo,h]
 have hm:move P (solo g w)= .machine (.next (solo g w))\/∃o w' ops,move P (solo g w)= .machine (.ended o w') ops:=by
  unfold move;have h0:(solo g w).rest.alone=none:=rfl;have h1:(solo g w).rest.slice=none:=rfl;have h2:(solo g w).rest.watch=false:=rfl;simp only[h0,h1,ask,h2,Bool.false_eq_true,if_false,askOn,hr,hd,had,List.isEmpty_nil,if_true,pure,Sem.run,List.length_nil,Nat.not_lt_zero,served];have hw:({world:=w,gs:=(solo g w).gs,rest:=(solo g w).rest}:Machine)=solo g w:=rfl;split
  ·exact .inl rfl
  ·right;split
   ·exact⟨_,_,_,rfl⟩
   ·exact⟨_,_,_,rfl⟩
 unfold step stepT;rcases hm with e|⟨o,w',ops,e⟩
 ·right;rw[e]
 ·left;exact⟨o,w',by rw[e]⟩
theorem runN_dead{P:Program}{g:Goroutine}{w:World}(h:g.status≠ .running)(ha:awake g):∀(n:Nat) (g':Goroutine) (w':World),g'.status= .running->runN P n (solo g w)≠ .next (solo g' w'):=by
 intro n;induction n with
 |zero=>
  intro g' w' hr e;simp only[runN,Stepped.next.injEq] at e;have:(solo g w).gs=(solo g' w').gs:=by rw[e]
  simp only[solo,Array.mk.injEq,List.cons.injEq,and_true] at this;rw[this] at h;exact h hr
 |succ n ih=>
  intro g' w' hr e;simp only[runN] at e;rcases step_dead (P:=P) (w:=w) h ha with⟨o,w1,e1⟩|e1
  ·rw[e1] at e;cases e
  ·rw[e1] at e;exact ih g' w' hr e
end Go.Bsd
namespace Go.Bsd
open Go.Conc
def Up(n:Nat)(s:Stepped):Prop:=∀m',s= .next m'->n<=m'.gs.size
theorem yE(n:Nat)(o:Outcome)(w:World):Up n (.ended o w):=fun _ h=>by cases h
theorem up_next{n:Nat}{m:Machine}(h:n<=m.gs.size):Up n (.next m):=fun _ e=>by cases e;exact h
theorem size_finishPartner(P:Program)(gs:Array Goroutine)(h k:Nat)(v:Value):(finishPartner P gs h k v).size=gs.size:=by simp[finishPartner]
theorem wH{P:Program}(rest:Rest)(gs:Array Goroutine)(i:Nat)(g:Goroutine)(cases:Array CommCase)(b:Bool)(sh:CommShape)(w:World):Up gs.size (communicate P rest gs i g cases b sh w).1:=by
 unfold communicate;dsimp only
 repeat' first
  |exact yE _ _ _
  |exact up_next (by simp[size_finishPartner])
  |split
theorem jl(P:Program)(gs:Array Goroutine)(r:Option Nat)(items:List Item)(st:Bool):gs.size<=(giveWork P gs r items st).1.size:=by
 unfold giveWork;dsimp only
 split<;>simp
theorem wG{P:Program}(gs:Array Goroutine)(rest:Rest)(w:World):Up gs.size (look P gs rest w):=by
 unfold look;dsimp only
 repeat' first
  |exact yE _ _ _
  |exact up_next (Nat.le_refl _)
  |exact up_next (jl _ _ _ _ _)
  |exact up_next (Nat.le_trans (jl _ _ _ _ _) (jl _ _ _ _ _))
  |split
theorem zfa{P:Program}(m:Machine)(k:Nat):Up m.gs.size (serve P m k):=by
 unfold serve;split
 ·exact yE _ _ _
 ·exact up_next (by simp)
 ·dsimp only;split
  ·exact yE _ _ _
  ·exact up_next (by simp)
theorem zba(gs:Array Goroutine)(i:Nat)(d:Goroutine):(gs.swapAt! i d).2.size=gs.size:=by
 unfold Array.swapAt!
 split
 ·simp[Array.swapAt]
 ·rfl
theorem zhg{P:Program}(m:Machine)(i:Nat):Up m.gs.size (runT P m i).1:=by
 unfold runT;dsimp only;have hs:=zba m.gs i {(default:Goroutine) with status:= .finished};generalize m.gs.swapAt! i {(default:Goroutine) with status:= .finished}=x at hs;obtain⟨g,gs⟩:=x
 simp only at hs
 rw[<-hs];split
 ·exact yE _ _ _
 ·exact wH _ _ _ _ _ _ _ _
 ·refine up_next ?_;dsimp only
  split<;>simp
 ·exact up_next (by simp)
 ·split
  ·exact yE _ _ _
  ·exact up_next (by simp)
 ·exact up_next (by simp)
 ·have:=wG (P:=P) (gs.setIfInBounds i ‹_›) m.rest ‹_›
  simpa using this
 ·exact up_next (by simp)
 ·exact up_next (by simp)
 ·repeat' first
   |exact yE _ _ _
   |exact up_next (by simp)
   |split
 ·repeat' first
   |exact yE _ _ _
   |(refine up_next ?_;simp;done)
   |split
def UpM(n:Nat):Move->Prop
 | .machine s _=>Up n s
 | .goroutine m _=>n<=m.gs.size
theorem zhh{P:Program}(m:Machine)(rs:List Nat):UpM m.gs.size (match (choose (.sched rs.length)).run P m.world with
 | .halt _ w=>Move.machine (.ended (.stuck "sched" "") w)
 | .ok k world=>
   if rs.length<=1 then .goroutine {m with world} (rs.getD k 0) else
   match (choose (.extern "sched.slice" 65536)).run P world with
   | .halt _ w=> .machine (.ended (.stuck "sched.slice" "") w)
   | .ok n world=> .goroutine {m with world,rest:={m.rest with slice:=if n=0 then none else some (rs.getD k 0,n)} } (rs.getD k 0)):=by
 repeat' first
  |exact yE _ _ _
  |exact Nat.le_refl _
  |split
theorem ui{P:Program}(m:Machine):UpM m.gs.size (askOn P m):=by
 unfold askOn;dsimp only
 repeat' first
  |exact yE _ _ _
  |exact zfa _ _
  |exact up_next (Nat.le_refl _)
  |exact zhh {m with world:=_} _
  |exact Nat.le_refl _
  |split
theorem ziu{P:Program}(m:Machine):UpM m.gs.size (ask P m):=by
 unfold ask;split
 ·split
  ·exact yE _ _ _
  ·split
   ·rename_i m' h;have h1:m.gs.size<=m'.gs.size:=wG (P:=P) m.gs m.rest _ m' h;have h2:=ui (P:=P) m';revert h2;cases askOn P m' with
    |goroutine m2 i=>exact fun h2=>Nat.le_trans h1 h2
    |machine s ops=>exact fun h2 m3 e=>Nat.le_trans h1 (h2 m3 e)
   ·rename_i e hne;have:=wG (P:=P) m.gs m.rest ‹World›
    exact this
  ·exact ui {m with world:=_}
 ·exact ui m
theorem zhi{P:Program}(m:Machine):UpM m.gs.size (move P m):=by
 unfold move
 repeat' first
  |exact yE _ _ _
  |exact ziu _
  |exact Nat.le_refl _
  |split
theorem zhf{P:Program}(m:Machine):Up m.gs.size (step P m):=by
 have h:=zhi (P:=P) m;unfold step stepT;revert h;cases move P m with
 |goroutine m2 i=>exact fun h m3 e=>Nat.le_trans h (zhg (P:=P) m2 i m3 e)
 |machine s ops=>exact fun h=>h
theorem zit{P:Program}:∀(n:Nat) (m m':Machine),runN P n m= .next m'->m.gs.size<=m'.gs.size:=by
 intro n;induction n with
 |zero=>intro m m' e;cases e;exact Nat.le_refl _
 |succ n ih=>
  intro m m' e;simp only[runN] at e;cases hs:step P m with
  |ended o w=>rw[hs] at e;cases e
  |next m1=>
   rw[hs] at e;exact Nat.le_trans (zhf (P:=P) m m1 hs) (ih m1 m' e)
end Go.Bsd
