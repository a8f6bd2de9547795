/- A part. -/
import Derived.Conc.Beside
set_option linter.all false
set_option maxRecDepth 100000
set_option maxHeartbeats 8000000
namespace Go.Bsd
open Go.Conc
def re(w:World)(T:Nat->Question->Nat)(d:Nat):World:={w with tape:=T,drawn:=d}
@[simp] theorem re_heap(w:World)(T:Nat->Question->Nat)(d:Nat):(re w T d).heap=w.heap:=rfl
@[simp] theorem zjy(w:World)(T:Nat->Question->Nat)(d:Nat):(re w T d).os=w.os:=rfl
@[simp] theorem zj6(w:World)(T:Nat->Question->Nat)(d:Nat):(re w T d).output=w.output:=rfl
@[simp] theorem wL(w:World)(T:Nat->Question->Nat)(d:Nat):(re w T d).tape=T:=rfl
@[simp] theorem uo(w:World)(T:Nat->Question->Nat)(d:Nat):(re w T d).drawn=d:=rfl
@[simp] theorem zjx(w:World)(T T':Nat->Question->Nat)(d d':Nat):re (re w T d) T' d'=re w T' d':=rfl
theorem zbU(w:World):re w w.tape w.drawn=w:=rfl
def mapW{α:Type}(f:World->World):Result α->Result α
 | .ok a w=> .ok a (f w)
 | .halt h w=> .halt h (f w)
def xC{α:Type}:Result α->World
 | .ok _ w=>w
 | .halt _ w=>w
def zJ(w:World)(n:Nat)(T:Nat->Question->Nat)(d:Nat):Prop:=∀i,i<n->∀q,T (d+i) q=w.tape (w.drawn+i) q
def zkk{α β:Type}(F:World->Result α×β):Prop:=
 ∀w,∃n,(xC (F w).1).tape=w.tape/\(xC (F w).1).drawn=w.drawn+n/\
  ∀T d,zJ w n T d->F (re w T d)=(mapW (fun w'=>re w' T (d+n)) (F w).1,(F w).2)
theorem zcU(P:Program)(w:World)(T:Nat->Question->Nat)(d:Nat)(a:Addr)(b:Bool):(re w T d).farLoad P a b=w.farLoad P a b:=rfl
def mapE(T:Nat->Question->Nat)(d:Nat):Except String (World×List Addr)->Except String (World×List Addr)
 | .ok (w,l)=> .ok (re w T d,l)
 | .error e=> .error e
def mapH(T:Nat->Question->Nat)(d:Nat):Except Halt (World×List Addr)->Except Halt (World×List Addr)
 | .ok (w,l)=> .ok (re w T d,l)
 | .error e=> .error e
theorem gZ(P:Program)(w:World)(T:Nat->Question->Nat)(d:Nat)(a:Addr)(u:TypeId)(k:Addr)(v:Value)(b:Bool):
 (re w T d).viewStore P a u k v b=mapE T d (w.viewStore P a u k v b):=by
 unfold World.viewStore;have hs:(re w T d).seen P a u k b=w.seen P a u k b:=rfl;rw[hs];cases ht:tight P P.depth u with
 |false=>simp only[Bool.not_false,if_true];rfl
 |true=>
  simp only[Bool.not_true,Bool.false_eq_true,if_false];cases h:w.seen P a u k b with
  |error e=>rfl
  |ok x=>
   obtain⟨c,e,frozen,first,like,cells⟩:=x
   cases hb:v.bytes? with
   |none=>rfl
   |some bytes=>
    by_cases hl:some bytes.length≠like.bytes?.map (·.length)
    ·simp only[bind,Except.bind,pure,Except.pure,if_pos hl];rfl
    ·simp only[bind,Except.bind,pure,Except.pure,if_neg hl];generalize cells.foldlM (m:=Except String) _ c=r;cases r with
     |error e=>rfl
     |ok c'=>rfl
theorem uc(P:Program)(w:World)(T:Nat->Question->Nat)(d:Nat)(a:Addr)(v:Value)(b:Bool):
 (re w T d).farStore P a v b=mapH T d (w.farStore P a v b):=by
 unfold World.farStore;have hh:(re w T d).heap[a.block]? =w.heap[a.block]? :=rfl;have hn:(re w T d).noCell a "store: no such cell" =w.noCell a "store: no such cell" :=rfl;rw[hh,hn];split
 ·rw[gZ];cases w.viewStore P _ _ a v b with
  |ok x=>obtain⟨w',l⟩:=x;rfl
  |error e=>rfl
 ·rfl
theorem gK(P:Program)(w w':World)(a:Addr)(v:Value)(b:Bool)(l:List Addr)(h:w.farStore P a v b= .ok (w',l)):w'.tape=w.tape/\w'.drawn=w.drawn:=by
 have h1:=uc P w w.tape w.drawn a v b;rw[zbU,h] at h1;simp only[mapH,Except.ok.injEq,Prod.mk.injEq] at h1;rw[h1.1];exact⟨rfl,rfl⟩
theorem zJ.zero(w:World)(T:Nat->Question->Nat)(d:Nat):zJ w 0 T d:=fun _ h=>absurd h (Nat.not_lt_zero _)
theorem zJ.mono{w:World}{n m:Nat}{T:Nat->Question->Nat}{d:Nat}(h:zJ w n T d)(hm:m<=n):zJ w m T d:=fun i hi q=>h i (Nat.lt_of_lt_of_le hi hm) q
theorem zJ.succ{w:World}{n:Nat}{T:Nat->Question->Nat}{d:Nat}(h:zJ w (n+1) T d):T d=w.tape w.drawn/\zJ {w with drawn:=w.drawn+1} n T (d+1):=by
 refine⟨funext fun q=>by simpa using h 0 (Nat.succ_pos _) q,fun i hi q=>?_⟩
 have:=h (i+1) (Nat.succ_lt_succ hi) q
 simpa [Nat.add_assoc,Nat.add_comm 1 i] using this
theorem zJ.split{w:World}{n m:Nat}{T:Nat->Question->Nat}{d:Nat}(h:zJ w (n+m) T d)(w':World)(ht:w'.tape=w.tape)(hd:w'.drawn=w.drawn+n):zJ w n T d/\zJ w' m T (d+n):=by
 refine⟨h.mono (Nat.le_add_right _ _),fun i hi q=>?_⟩;have:=h (n+i) (Nat.add_lt_add_left hi _) q
 rw[ht,hd,Nat.add_assoc,Nat.add_assoc];exact this
theorem zeu{α:Type}(x:Ask α):∀w:World,∃n,(w.ask x).2.tape=w.tape/\(w.ask x).2.drawn=w.drawn+n/\(w.ask x).2.heap=w.heap/\(w.ask x).2.os=w.os/\(w.ask x).2.output=w.output/\
 ∀T d,zJ w n T d->(re w T d).ask x=((w.ask x).1,re (w.ask x).2 T (d+n)):=by
 induction x with
 |done a=>exact fun w=>⟨0,rfl,rfl,rfl,rfl,rfl,fun T d _=>rfl⟩
 |ask what range k ih=>
  intro w;simp only[World.ask];by_cases hf:(Question.extern what range).forced=true
  ·simp only[hf,if_true];exact ih 0 w
  ·simp only[hf,if_false,Bool.false_eq_true];obtain⟨n,h1,h2,h3,h4,h5,h6⟩:=ih ((Question.extern what range).cut (w.tape w.drawn (.extern what range))) {w with drawn:=w.drawn+1}
   refine⟨n+1,h1,by rw[h2];show w.drawn+1+n=_;omega,h3,h4,h5,fun T d hT=>?_⟩
   obtain⟨e,hT'⟩:=hT.succ
   have:=h6 T (d+1) hT'
   have e2:T d (Question.extern what range)=w.tape w.drawn (.extern what range):=by rw[e]
   simp only[wL,uo,e2];rw[show d+(n+1)=d+1+n by omega]
   exact this
theorem zdy(w:World)(c:Sys)(h:(w.sys c).1≠ .wouldBlock):∃n,(w.sys c).2.tape=w.tape/\(w.sys c).2.drawn=w.drawn+n/\∀T d,zJ w n T d->(re w T d).sys c=((w.sys c).1,re (w.sys c).2 T (d+n)):=by
 obtain⟨n,h1,h2,h3,h4,h5,h6⟩:=zeu (Kernel.perform c w.os) w
 have hx:w.ask (Kernel.perform c w.os)=((((w.ask (Kernel.perform c w.os)).1.1,(w.ask (Kernel.perform c w.os)).1.2)),(w.ask (Kernel.perform c w.os)).2):=rfl;generalize (w.ask (Kernel.perform c w.os)).1.1=r at hx;generalize (w.ask (Kernel.perform c w.os)).1.2=os at hx;generalize (w.ask (Kernel.perform c w.os)).2=w' at*;have hr:r≠ .wouldBlock:=by
  rintro rfl;have:w.sys c=(.wouldBlock,w):=by unfold World.sys;rw[hx]
  rw[this] at h;exact h rfl
 have hs:w.sys c=(r,{w' with os}):=by
  unfold World.sys;rw[hx];cases r<;>first|rfl|exact absurd rfl hr
 rw[hs];refine⟨n,h1,h2,fun T d hT=>?_⟩;have:=h6 T d hT
 unfold World.sys;rw[zjy,this,hx];cases r<;>first|rfl|exact absurd rfl hr
def endsRun:Halt->Prop
 | .unsupported (.noEntry _)=>True
 | .stuck _=>True
 |_=>False
def Safe{α:Type}(P:Program)(post:α->Prop):Nat->Sem α->Prop
 |o, .pure a=>o=0/\post a
 |o, .load _ _ k=>∀v,Safe P post o (k v)
 |o, .store _ _ _ k=>Safe P post o k
 |o, .new _ k=>∀r,Safe P post o (k r)
 |o, .shape _ k=>∀s,Safe P post o (k s)
 |o, .freeze _ _ k=>Safe P post o k
 |o, .frozen _ k=>∀b,Safe P post o (k b)
 |o, .getObj _ k=>∀x,Safe P post o (k x)
 |o, .setObj _ _ k=>Safe P post o k
 |o, .choose _ k=>∀n,Safe P post o (k n)
 |o, .sys _ k=>(∃h,endsRun h/\k .wouldBlock= .halt h)/\∀r,r≠ .wouldBlock->Safe P post o (k r)
 |o, .program k=>Safe P post o (k P)
 |o, .mark m k=>(m= .disable/\Safe P post (o+1) k)\/(m= .enable/\∃o',o=o'+1/\Safe P post o' k)\/(m≠ .disable/\m≠ .enable/\Safe P post o k)
 |o, .halt h=>(∀m,h≠ .fatal m)/\(o=0\/((∀v,h≠ .panic v)/\h≠ .goexit/\∀m,h≠ .throw m))
theorem Safe.mono{α:Type}{P:Program}{post post':α->Prop}(h:∀a,post a->post' a)(s:Sem α):∀{o:Nat},Safe P post o s->Safe P post' o s:=by
 induction s with
 |pure a=>exact fun x=>⟨x.1,h _ x.2⟩
 |load m a k ih=>exact fun x v=>ih v (x v)
 |store m a v k ih=>exact fun x=>ih x
 |new ob k ih=>exact fun x r=>ih r (x r)
 |shape r k ih=>exact fun x r=>ih r (x r)
 |freeze a n k ih=>exact fun x=>ih x
 |frozen a k ih=>exact fun x b=>ih b (x b)
 |getObj r k ih=>exact fun x b=>ih b (x b)
 |setObj r ob k ih=>exact fun x=>ih x
 |choose q k ih=>exact fun x b=>ih b (x b)
 |sys c k ih=>exact fun x=>⟨x.1,fun r hr=>ih r (x.2 r hr)⟩
 |program k ih=>exact fun x=>ih P x
 |mark m k ih=>exact fun x=>x.imp (fun y=>⟨y.1,ih y.2⟩) (fun x=>x.imp (fun⟨y,o',e,z⟩=>⟨y,o',e,ih z⟩) (fun⟨y,y',z⟩=>⟨y,y',ih z⟩))
 |halt hh=>exact id
theorem Safe.bind{α β:Type}{P:Program}{post:β->Prop}{f:α->Sem β}(s:Sem α):∀{o:Nat},Safe P (fun a=>Safe P post 0 (f a)) o s->Safe P post o (s.bind f):=by
 induction s with
 |pure a=>rintro o ⟨rfl,x⟩;exact x
 |load m a k ih=>exact fun x v=>ih v (x v)
 |store m a v k ih=>exact fun x=>ih x
 |new ob k ih=>exact fun x r=>ih r (x r)
 |shape r k ih=>exact fun x r=>ih r (x r)
 |freeze a n k ih=>exact fun x=>ih x
 |frozen a k ih=>exact fun x b=>ih b (x b)
 |getObj r k ih=>exact fun x b=>ih b (x b)
 |setObj r ob k ih=>exact fun x=>ih x
 |choose q k ih=>exact fun x b=>ih b (x b)
 |sys c k ih=>
  intro o x;refine⟨?_,fun r hr=>ih r (x.2 r hr)⟩;obtain⟨h,he,hs⟩:=x.1
  exact⟨h,he,by simp[hs,Sem.bind]⟩
 |program k ih=>exact fun x=>ih P x
 |mark m k ih=>exact fun x=>x.imp (fun y=>⟨y.1,ih y.2⟩) (fun x=>x.imp (fun⟨y,o',e,z⟩=>⟨y,o',e,ih z⟩) (fun⟨y,y',z⟩=>⟨y,y',ih z⟩))
 |halt hh=>exact id
theorem Safe.bnd{α β:Type}{P:Program}{post:β->Prop}{f:α->Sem β}{s:Sem α}{o:Nat}(h:Safe P (fun a=>Safe P post 0 (f a)) o s):Safe P post o (s >>= f):=Safe.bind s h
theorem Safe.bnd'{α β:Type}{P:Program}{post:β->Prop}{f:α->Sem β}{s:Sem α}(h:Safe P (fun _=>True) 0 s)(hf:∀a,Safe P post 0 (f a)):Safe P post 0 (s >>= f):=Safe.bnd (Safe.mono (fun a _=>hf a) s h)
def ko:Halt->Prop
 | .panic _=>True
 | .goexit=>True
 | .throw _=>True
 |_=>False
theorem deafBehind_push(d:Nat)(es:Array Event)(e:Event):deafBehind d (es.push e)=deafBehind (deafBehind d es) #[e]:=by
 unfold deafBehind;simp
theorem qR(d:Nat)(es es':Array Event):deafBehind d (es++es')=deafBehind (deafBehind d es) es':=by
 unfold deafBehind;simp
theorem jV{es:Array Event}(h:∀e∈es,e.loc≠ .mark .disable/\e.loc≠ .mark .enable)(d:Nat):deafBehind d es=d:=deafBehind_still h d
theorem u4(d:Nat)(l:List Addr)(wr sy:Bool):deafBehind d (l.toArray.map fun a=>(⟨.cell a,wr,sy⟩:Event))=d:=by
 refine jV (fun e he=>?_) d;obtain⟨a,_,rfl⟩:=Array.mem_map.1 he
 exact⟨by simp,by simp⟩
theorem deaf_one(d:Nat)(e:Event)(h1:e.loc≠ .mark .disable)(h2:e.loc≠ .mark .enable):deafBehind d #[e]=d:=jV (by simp;exact⟨h1,h2⟩) d
theorem deaf_dis(d:Nat)(wr sy:Bool):deafBehind d #[⟨.mark .disable,wr,sy⟩]=d+1:=rfl
theorem deaf_en(d:Nat)(wr sy:Bool):deafBehind d #[⟨.mark .enable,wr,sy⟩]=d-1:=rfl
def kM(h:Halt):Prop:=¬ko h/\∀m,h≠ .fatal m
theorem noCell_halts(w:World)(a:Addr)(s:String):kM (w.noCell a s):=by
 unfold World.noCell
 split<;>exact⟨id,by simp⟩
theorem gL{P:Program}{w:World}{a:Addr}{b:Bool}{h:Halt}(e:w.farLoad P a b= .error h):kM h:=by
 unfold World.farLoad at e
 split at e
 ·split at e
  ·cases e
  ·cases e;exact⟨id,by simp⟩
 ·cases e;exact noCell_halts _ _ _
theorem farStore_halts{P:Program}{w:World}{a:Addr}{v:Value}{b:Bool}{h:Halt}(e:w.farStore P a v b= .error h):kM h:=by
 unfold World.farStore at e
 split at e
 ·split at e
  ·cases e
  ·cases e;exact⟨id,by simp⟩
 ·cases e;exact noCell_halts _ _ _
theorem not_ends{h:Halt}(he:endsRun h):kM h:=by cases h<;>first|exact he.elim|exact⟨id,by simp⟩
theorem not_unsupported(u:Unsupported):kM (.unsupported u):=⟨id,by simp⟩
theorem not_stuck(s:String):kM (.stuck s):=⟨id,by simp⟩
theorem halt_vac{α:Type}{h:Halt}(hn:kM h){post:α->Prop}{d d₀:Nat}{w:World}{es:Array Event}:
 (∀a w' es',((Result.halt h w:Result α),es)=(.ok a w',es')->post a/\deafBehind d es'=d₀)/\(∀h' w' es',((Result.halt h w:Result α),es)=(.halt h' w',es')->(∀m,h'≠ .fatal m)/\(ko h'->deafBehind d es'=d₀)):=by
 refine⟨fun b w' es' h=>?_,fun hh w' es' h=>?_⟩
 ·cases h
 ·cases h;exact⟨hn.2,fun hg=>absurd hg hn.1⟩
theorem Safe.deaf{α:Type}{P:Program}{post:α->Prop}(s:Sem α):∀{o:Nat},Safe P post o s->∀(w:World) (es:Array Event) (d₀ d:Nat),deafBehind d es=d₀+o->
 (∀a w' es',s.runT P w es=(.ok a w',es')->post a/\deafBehind d es'=d₀)/\(∀h w' es',s.runT P w es=(.halt h w',es')->(∀m,h≠ .fatal m)/\(ko h->deafBehind d es'=d₀)):=by
 induction s with
 |pure a=>
  rintro o ⟨rfl,x⟩ w es d₀ d hd;refine⟨fun b w' es' h=>?_,fun hh w' es' h=>?_⟩
  ·cases h;exact⟨x,hd⟩
  ·cases h
 |load m a k ih=>
  intro o x w es d₀ d hd;simp only[Sem.runT];cases hc:w.cell? a with
  |some v=>exact ih v (x v) w _ d₀ d (by rw[deafBehind_push,hd,deaf_one _ _ (by simp) (by simp)])
  |none=>
   cases hf:w.farLoad P a (m== .atomic) with
   |ok r=>exact ih _ (x _) w _ d₀ d (by rw[qR,hd,u4])
   |error e=>exact halt_vac (gL hf)
 |store m a v k ih=>
  intro o x w es d₀ d hd;have gen:(∀c,v≠ .agg c)->(∀c,v≠ .tuple c)->(Sem.store m a v k).runT P w es=(match w.cell? a with
   |some _=>if w.frozen? a then (.halt (.unsupported (.unsafePointer "a write to bytes that a string shares")) w,es) else k.runT P (w.setCell a v) (es.push ⟨.cell a,true,m== .atomic⟩)
   |none=>match w.farStore P a v (m== .atomic) with
    | .ok (w,touched)=>k.runT P w (es++touched.toArray.map (⟨.cell ·,true,m== .atomic⟩))
    | .error h=>(.halt h w,es)):=by
   intro h1 h2;cases v<;>first|rfl|exact absurd rfl (h1 _)|exact absurd rfl (h2 _)
  by_cases h1:∀c,v≠ .agg c
  ·by_cases h2:∀c,v≠ .tuple c
   ·rw[gen h1 h2];cases hc:w.cell? a with
    |some v'=>
     simp only[];split
     ·first|exact halt_vac (not_unsupported _)|exact halt_vac (not_stuck _)
     ·exact ih x _ _ d₀ d (by rw[deafBehind_push,hd,deaf_one _ _ (by simp) (by simp)])
    |none=>
     cases hf:w.farStore P a v (m== .atomic) with
     |ok r=>exact ih x _ _ d₀ d (by rw[qR,hd,u4])
     |error e=>exact halt_vac (farStore_halts hf)
   ·obtain⟨c,rfl⟩:∃c,v= .tuple c:=by simpa using h2
    first|exact halt_vac (not_unsupported _)|exact halt_vac (not_stuck _)
  ·obtain⟨c,rfl⟩:∃c,v= .agg c:=by simpa using h1
   first|exact halt_vac (not_unsupported _)|exact halt_vac (not_stuck _)
 |new ob k ih=>exact fun x w es d₀ d hd=>ih _ (x _) _ _ d₀ d hd
 |shape r k ih=>exact fun x w es d₀ d hd=>ih _ (x _) _ _ d₀ d hd
 |freeze a n k ih=>exact fun x w es d₀ d hd=>ih x _ _ d₀ d hd
 |frozen a k ih=>exact fun x w es d₀ d hd=>ih _ (x _) _ _ d₀ d hd
 |getObj r k ih=>
  intro o x w es d₀ d hd;simp only[Sem.runT];split
  ·first|exact halt_vac (not_unsupported _)|exact halt_vac (not_stuck _)
  ·exact ih _ (x _) _ _ d₀ d (by rw[deafBehind_push,hd,deaf_one _ _ (by simp) (by simp)])
  ·first|exact halt_vac (not_unsupported _)|exact halt_vac (not_stuck _)
 |setObj r ob k ih=>
  intro o x w es d₀ d hd;simp only[Sem.runT];split
  ·first|exact halt_vac (not_unsupported _)|exact halt_vac (not_stuck _)
  ·exact ih x _ _ d₀ d (by rw[deafBehind_push,hd,deaf_one _ _ (by simp) (by simp)])
  ·first|exact halt_vac (not_unsupported _)|exact halt_vac (not_stuck _)
 |choose q k ih=>
  intro o x w es d₀ d hd;simp only[Sem.runT];split
  ·exact ih _ (x _) _ _ d₀ d hd
  ·exact ih _ (x _) _ _ d₀ d hd
 |sys c k ih=>
  intro o x w es d₀ d hd;simp only[Sem.runT];by_cases hr:(w.sys c).1= .wouldBlock
  ·obtain⟨h,he,hs⟩:=x.1
   rw[hr,hs];exact halt_vac (not_ends he)
  ·exact ih _ (x.2 _ hr) _ _ d₀ d (by rw[deafBehind_push,hd,deaf_one _ _ (by simp) (by simp)])
 |program k ih=>exact fun x w es d₀ d hd=>ih P x _ _ d₀ d hd
 |mark m k ih=>
  intro o x w es d₀ d hd;simp only[Sem.runT];rcases x with⟨rfl,x⟩|⟨rfl,o',rfl,x⟩|⟨h1,h2,x⟩
  ·exact ih x _ _ d₀ d (by rw[deafBehind_push,hd,deaf_dis];rfl)
  ·exact ih x _ _ d₀ d (by rw[deafBehind_push,hd,deaf_en];omega)
  ·exact ih x _ _ d₀ d (by rw[deafBehind_push,hd,deaf_one _ _ (by simpa using h1) (by simpa using h2)])
 |halt hh=>
  intro o x w es d₀ d hd;refine⟨fun b w' es' h=>(by cases h),fun h' w' es' h=>?_⟩
  cases h;obtain⟨hf,x⟩:=x
  refine⟨hf,fun hg=>?_⟩;rcases x with rfl|⟨h1,h2,h3⟩
  ·exact hd
  ·cases hh<;>first|exact absurd rfl (h1 _)|exact absurd rfl h2|exact absurd rfl (h3 _)|exact hg.elim
theorem Safe.local{α:Type}{P:Program}{post:α->Prop}(s:Sem α):∀{o:Nat},Safe P post o s->∀(w:World) (es:Array Event),
 (∃h w' es',endsRun h/\s.runT P w es=(.halt h w',es'))\/
 ∃n,(xC (s.runT P w es).1).tape=w.tape/\(xC (s.runT P w es).1).drawn=w.drawn+n/\
  ∀T d,zJ w n T d->s.runT P (re w T d) es=(mapW (fun w'=>re w' T (d+n)) (s.runT P w es).1,(s.runT P w es).2):=by
 induction s with
 |pure a=>exact fun _ w es=> .inr ⟨0,rfl,rfl,fun T d _=>rfl⟩
 |load m a k ih=>
  intro o x w es;have hre:∀T d,(re w T d).cell? a=w.cell? a:=fun _ _=>rfl;simp only[Sem.runT,hre,zcU];cases hc:w.cell? a with
  |some v=>exact ih v (x v) w _
  |none=>
   cases hf:w.farLoad P a (m== .atomic) with
   |ok r=>exact ih _ (x _) w _
   |error e=>exact .inr ⟨0,rfl,rfl,fun T d _=>rfl⟩
 |store m a v k ih=>
  intro o x w es;have gen:(∀c,v≠ .agg c)->(∀c,v≠ .tuple c)->∀w:World,(Sem.store m a v k).runT P w es=(match w.cell? a with
   |some _=>if w.frozen? a then (.halt (.unsupported (.unsafePointer "a write to bytes that a string shares")) w,es) else k.runT P (w.setCell a v) (es.push ⟨.cell a,true,m== .atomic⟩)
   |none=>match w.farStore P a v (m== .atomic) with
    | .ok (w,touched)=>k.runT P w (es++touched.toArray.map (⟨.cell ·,true,m== .atomic⟩))
    | .error h=>(.halt h w,es)):=by
   intro h1 h2 w;cases v<;>first|rfl|exact absurd rfl (h1 _)|exact absurd rfl (h2 _)
  by_cases h1:∀c,v≠ .agg c
  ·by_cases h2:∀c,v≠ .tuple c
   ·simp only[gen h1 h2];have hre:∀T d,(re w T d).cell? a=w.cell? a:=fun _ _=>rfl;have hrf:∀T d,(re w T d).frozen? a=w.frozen? a:=fun _ _=>rfl;have hrs:∀T d,(re w T d).setCell a v=re (w.setCell a v) T d:=fun _ _=>rfl;simp only[hre,hrf,hrs,uc];cases hc:w.cell? a with
    |some v'=>
     simp only[];split
     ·exact .inr ⟨0,rfl,rfl,fun T d _=>rfl⟩
     ·exact ih x (w.setCell a v) _
    |none=>
     cases hf:w.farStore P a v (m== .atomic) with
     |ok r=>
      obtain⟨t1,t2⟩:=gK P w r.1 a v _ r.2 hf
      rcases ih x r.1 (es++r.2.toArray.map (⟨.cell ·,true,m== .atomic⟩)) with h|⟨n,e1,e2,e3⟩
      ·exact .inl h
      ·refine .inr ⟨n,e1.trans t1,by rw[e2,t2],fun T d hT=>?_⟩
       exact e3 T d (fun i hi q=>by rw[t1,t2];exact hT i hi q)
     |error e=>exact .inr ⟨0,rfl,rfl,fun T d _=>rfl⟩
   ·obtain⟨c,rfl⟩:∃c,v= .tuple c:=by simpa using h2
    exact .inr ⟨0,rfl,rfl,fun T d _=>rfl⟩
  ·obtain⟨c,rfl⟩:∃c,v= .agg c:=by simpa using h1
   exact .inr ⟨0,rfl,rfl,fun T d _=>rfl⟩
 |new ob k ih=>exact fun x w es=>ih _ (x _) {w with heap:=w.heap.push ob} es
 |shape r k ih=>exact fun x w es=>ih _ (x _) w es
 |freeze a n k ih=>
  intro o x w es;have e:∀T d,(re w T d).freeze a n=re (w.freeze a n) T d:=by intro T d;unfold World.freeze;split<;>rfl
  have e1:(w.freeze a n).tape=w.tape/\(w.freeze a n).drawn=w.drawn:=by unfold World.freeze;split<;>exact⟨rfl,rfl⟩
  simp only[Sem.runT,e];rcases ih x (w.freeze a n) es with h|⟨m,h1,h2,h3⟩
  ·exact .inl h
  ·exact .inr ⟨m,h1.trans e1.1,by rw[h2,e1.2],fun T d hT=>h3 T d (fun i hi q=>by rw[e1.1,e1.2];exact hT i hi q)⟩
 |frozen a k ih=>exact fun x w es=>ih _ (x _) w es
 |getObj r k ih=>
  intro o x w es;simp only[Sem.runT,re_heap];cases hx:w.heap[r]? with
  |none=>exact .inr ⟨0,rfl,rfl,fun T d _=>rfl⟩
  |some ob=>cases ob<;>first|exact .inr ⟨0,rfl,rfl,fun T d _=>rfl⟩|exact ih _ (x _) w _
 |setObj r ob k ih=>
  intro o x w es;simp only[Sem.runT,re_heap];cases hx:w.heap[r]? with
  |none=>exact .inr ⟨0,rfl,rfl,fun T d _=>rfl⟩
  |some ob'=>cases ob'<;>first|exact .inr ⟨0,rfl,rfl,fun T d _=>rfl⟩|exact ih x {w with heap:=w.heap.setIfInBounds r ob} _
 |choose q k ih=>
  intro o x w es;simp only[Sem.runT];by_cases hq:q.forced=true
  ·simp only[hq,if_true];exact ih _ (x _) w es
  ·simp only[hq,if_false,Bool.false_eq_true];rcases ih _ (x (q.cut (w.tape w.drawn q))) {w with drawn:=w.drawn+1} es with h|⟨n,h1,h2,h3⟩
   ·exact .inl h
   ·refine .inr ⟨n+1,h1,by rw[h2];show w.drawn+1+n=_;omega,fun T d hT=>?_⟩
    obtain⟨e,hT'⟩:=hT.succ
    have e2:T d q=w.tape w.drawn q:=by rw[e]
    simp only[wL,uo,e2];rw[show d+(n+1)=d+1+n by omega]
    exact h3 T (d+1) hT'
 |sys c k ih=>
  intro o x w es;simp only[Sem.runT];by_cases hr:(w.sys c).1= .wouldBlock
  ·obtain⟨h,he,hs⟩:=x.1
   left;rw[hr,hs];exact⟨h,_,_,he,rfl⟩
  ·obtain⟨m,t1,t2,t3⟩:=zdy w c hr
   rcases ih _ (x.2 _ hr) (w.sys c).2 (es.push ⟨.output,true,false⟩) with h|⟨n,h1,h2,h3⟩
   ·exact .inl h
   ·refine .inr ⟨m+n,h1.trans t1,by rw[h2,t2];omega,fun T d hT=>?_⟩
    obtain⟨f1,f2⟩:=hT.split (w.sys c).2 t1 t2
    rw[t3 T d f1,<-Nat.add_assoc];exact h3 T (d+m) f2
 |program k ih=>exact fun x w es=>ih P x w es
 |mark m k ih=>
  intro o x w es;simp only[Sem.runT];rcases x with⟨rfl,x⟩|⟨rfl,o',rfl,x⟩|⟨h1,h2,x⟩
  ·exact ih x w _
  ·exact ih x w _
  ·exact ih x w _
 |halt hh=>exact fun _ w es=> .inr ⟨0,rfl,rfl,fun T d _=>rfl⟩
end Go.Bsd
