/- A part. -/
import Derived.Test.YtonmcakdofbjiaaGreatDoorM8
import Derived.Conc.LoneCalls
set_option linter.all false
set_option maxRecDepth 100000
set_option maxHeartbeats 8000000
namespace Go.Bsd
open Go.Conc
open Go.ConcN (sumTo upd sumTo_upd upd_ne upd_same)
section
variable {P:Program} {Fp Fc:FuncId->Prop} {Gp Gc:Nat->Prop} {f:FuncId} {n c cap K:Nat} {L:List Value} {closeD:Deferred} {child:Frame} {l0:List Frame} {w0:World} {Gb:Nat->Prop} {p q:Nd} {gs:Array Goroutine} {w:World} {sl:Option (Nat×Nat)} {t:Trace} {m:Nat->Nat} {sent rcvd mp mc pb cb:Nat} {bp bc buf:Array Value}
 {Xc Xp:Goroutine->World->Prop} {Fin:Array Goroutine->World->Option (Nat×Nat)->Trace->Prop}
theorem zb4{L:List Value}{sent rcvd:Nat}(h:([]:List Value)=(L.drop rcvd).take (sent-rcvd))(hl:rcvd<L.length)(hle:rcvd<=sent):sent=rcvd:=by
 have:=congrArg List.length h
 simp at this;omega
theorem zgn{L:List Value}{sent rcvd:Nat}{b:Array Value}(h:b.toList=(L.drop rcvd).take (sent-rcvd))(hne:0<b.size):(b.extract 1 b.size).toList=(L.drop (rcvd+1)).take (sent-(rcvd+1))/\rcvd+1<=sent/\rcvd<L.length/\L[rcvd]? =some (b.getD 0 undef):=by
 obtain⟨l⟩:=b
 simp only at h
 have hlen:0<((L.drop rcvd).take (sent-rcvd)).length:=by rw[<-h];simpa using hne
 simp at hlen;have h1:rcvd+1<=sent:=by omega
 have h2:rcvd<L.length:=by omega
 refine⟨?_,h1,h2,?_⟩
 ·simp only[List.extract_toArray,List.size_toArray];rw[List.extract_eq_drop_take',List.take_of_length_le (Nat.le_refl _),h,List.drop_take,List.drop_drop]
  congr 1
 ·subst h;have e:∃k,sent-rcvd=k+1:=⟨sent-rcvd-1,by omega⟩
  obtain⟨k,e⟩:=e
  simp[e,h2,List.getElem?_take]
theorem zaI{L:List Value}{sent rcvd:Nat}{b:Array Value}{x:Value}(h:b.toList=(L.drop rcvd).take (sent-rcvd))(hx:L[sent]? =some x)(hle:rcvd<=sent):(b.push x).toList=(L.drop rcvd).take (sent+1-rcvd):=by
 rw[Array.toList_push,h];have e:sent+1-rcvd=(sent-rcvd)+1:=by omega
 rw[e,List.take_add_one,List.getElem?_drop,show rcvd+(sent-rcvd)=sent by omega,hx]
 rfl
theorem zfB(hPc:SimP P Fc Gc (fun b=>b=false))(hL:∀x∈L,PlainV x)(hX:∀g v,Xc g v->jk P f c K g v)
 (h:PhA P Fp Fc Gp Gc f n c cap K L closeD child l0 w0 Gb p q gs w t m sent rcvd mp mc bp bc buf pb cb) (h0:gs[0]? =some (Go.Conc.G q.fr' q.l')) (hmc:mc=rcvd) (hcb:cb=1)
 (hq:(∀T d,Xc (Go.Conc.G q.fr q.l) (re q.v T d))\/(Goes1 [] [bottom f c] q.fr q.l/\∀T d,∃g' v',step P (solo (Go.Conc.G q.fr q.l) (re q.v T d))= .next (solo g' v')/\g'.status= .running/\zdm P Fp Fc Gp Gc f n c cap K L closeD child l0 w0 Gb Fin p g' v'))
 (hin:zg9 P Fp Fc Gp Gc f n c cap K L closeD child l0 w0 Gb Fin p q (pb+cb+sumTo gs.size m))
 {w':World} {sl':Option (Nat×Nat)} (hst:stepT P (crowd gs w' sl')=runT P (crowd gs w sl) 0):Reach P Fin gs w' sl' t:=by
 have hcore:=h.core;have only:jA q.ρ q.v c:=hcore.onlyc;obtain⟨va,vb,hvc⟩:=hcore.vcc
 subst hmc;subst hcb
 rcases hq with hend|⟨hgo,hkid⟩
 ·
  obtain⟨fr,z,ok,eG,hmode,hcomm,ca,cb,hch⟩:=hX _ _ (hend w.tape w.drawn)
  have eG':=eG;simp only[Go.Conc.G,Goroutine.mk.injEq,and_true] at eG';obtain⟨e1,e2⟩:=eG'
  have hx:=hcomm w.tape w.drawn;have hbc:bc= #[]:=by
   have hch':q.v.heap[c]? =some (.chan K #[] false ca cb false):=hch;rw[hvc] at hch';simp only[Option.some.injEq,Obj.chan.injEq] at hch';exact hch'.2.1
  have hge:L.length<=mc:=by
   have:=congrArg List.length (hcore.tc)
   rw[hbc] at this;simp at this;omega
  obtain⟨ρ₁,fr₁',l₁',w₂,es',cc',hs1,hcc,mv,hsr,hev⟩:=zaE (c:=c) (z:=z) (ok:=ok) hPc hcore.lkc (by rw[e1];exact hmode) hx true
  have hch2:cc'.chan= .chan (some c):=by
   have:=hcc.chan
   generalize cc'.chan=y at this;cases this with
   |chan hh=>
    cases hh with
    |some hh=>
     have:=(hcore.lkc.tape w.tape w.drawn w.tape w.drawn).moved mv hsr
     have:=(this.one.inj _ _ _ _ (mv.ext _ _ hcore.sc) hh).1 rfl
     rw[<-this]
  have hsend:cc'.send=none:=by
   have:=hcc.send
   generalize cc'.send=y at this;cases this;rfl
  rw[comm_eta_r hch2 hsend] at hs1;have hcore2:=(hcore.c_moved (T:=w.tape) (d:=w.drawn) mv hsr).c_tape;have hbuf:buf= #[]:=by
   apply Array.toList_inj.1;rw[hcore.tb,List.drop_of_length_le hge];simp
  subst hbuf;have hps:∃y j,gs[n]? =some y/\Pre P j y (Go.Conc.G p.fr' p.l')/\mp=sent/\pb=1+j:=by
   rcases h.ps with e|⟨x,z,a',e,_,_,hx,hsz,_⟩
   ·exact e
   ·have:=h.cap0
    simp at hsz;omega
  obtain⟨yp,jp,hpn,hpre,hpm,hpb⟩:=hps
  have hlen:mc=L.length:=by
   have:=hcore.le
   have:=h.sentL
   omega
  have hc2:w₂.heap[c]? =some (.chan cap #[] false sent mc false):=hcore2.wc;have hrun:=crowd_waits (P:=P) (gs:=gs) (w:=w) (sl:=sl) (i:=0) h0 (show stepG P (0==0) _ w=_ from hs1) (by
   intro y hy;have e:y=rcase c cc'.zero:=by simpa using hy
   subst e;exact ways_recv_none hc2 (partners_c_none h hpn hpre true))
  have hu:∀op∈MemOp.ofEvents 0 (Go.Conc.G q.fr' q.l').frame.fn (Go.Conc.G q.fr' q.l').frame.place es',op.g=0\/op.g=n:=fun op hop=> .inl (own_ops op hop);refine Reach.step (hst.trans hrun) (hin p ⟨ρ₁,q.fr,q.l,fr₁',l₁',q.v⟩ _ _ _ _ m sent mc mp mc bp bc #[] pb 0 rfl rfl rfl rfl rfl rfl
   ⟨hcore2,duo_c h mv.ext hev hcore2.disj,h.n0,h.cap0,h.sentL, .inl ⟨yp,jp,by rw[yl (Ne.symm h.n0)];exact hpn,hpre,hpm,hpb⟩, .inr (.inr ⟨cc'.zero,ok,yW h.z_lt,rfl,hlen,rfl⟩),qP h.others hu (.inl rfl),jO h.z_lt h.n_lt h.above hu⟩ ?_)
  rw[Array.size_setIfInBounds];omega
 ·obtain⟨g',v',hstep,hrun',hk⟩:=hkid w.tape w.drawn
  rcases node_step hPc (noRec_normal _) (noRec_normal _) hcore.lkc hgo hstep true with⟨ρ₁,fr₁,l₁,fr₁',l₁',w₂,es',e1,e2,mv,hsr,hev⟩|⟨ρ₁,fr₁,l₁,fr₁',l₁',v₂,w₂,es,es',cc,cc',s,e1,e2,hcc,hD,hsh,mv,hsr,hev⟩
  ·
   have hcore2:=hcore.c_moved (T:=w.tape) (d:=w.drawn) mv hsr;have hrun:=runT_crowd_go (P:=P) (gs:=gs) (w:=w) (sl:=sl) (i:=0) h0 (show stepG P (0==0) _ w=_ from e1);rw[jj (wg h hcore2.wc)] at hrun;have hu:∀op∈MemOp.ofEvents 0 (Go.Conc.G q.fr' q.l').frame.fn (Go.Conc.G q.fr' q.l').frame.place es',op.g=0\/op.g=n:=fun op hop=> .inl (own_ops op hop);refine Reach.step (hst.trans hrun) (hk p ⟨ρ₁,fr₁,l₁,fr₁',l₁',v'⟩ _ _ _ _ m sent mc mp mc bp bc buf pb 1 rfl rfl rfl e2 rfl
    ⟨hcore2,duo_c h mv.ext hev hcore2.disj,h.n0,h.cap0,h.sentL,?_, .inl ⟨yW h.z_lt,rfl,rfl⟩,qP h.others hu (.inl rfl),jO h.z_lt h.n_lt h.above hu⟩)
   rw[yl (Ne.symm h.n0)];exact h.ps
  ·
   obtain⟨q1,q2⟩:=chan_of hcc e2 hstep hrun' (xE mv only)
   have hnone:cc.send=none:=by
    cases hx:cc.send with
    |none=>rfl
    |some x=>rw[hx] at hD;cases hD
   have hnone':cc'.send=none:=by
    have:=hcc.send
    rw[hnone] at this;generalize cc'.send=y at this;cases this;rfl
   obtain⟨ok,rfl⟩:∃ok,s= .recv ok:=by
    cases s with
    |recv ok=>exact⟨ok,rfl⟩
    |send=>have:=hsh cc (by simp);rw[hnone] at this;cases this
    |select=>exact hsh.elim
   rw[comm_eta_r q1 hnone] at e2;rw[comm_eta_r q2 hnone'] at e1;have hvc2:v₂.heap[c]? =some (.chan K bc false va vb false):=mv.chan c _ hvc rfl;by_cases hne:0<bc.size
   ·obtain⟨rfl,rfl⟩:=gz e2 hvc2 hne hstep
    obtain⟨r1,r2,r3⟩:=recv_tail hcore.tc hne
    have hplain:=hL _ (List.mem_of_getElem? r3);generalize hval:bc.getD 0 undef=x at*;have hcore2:=hcore.c_moved (T:=w.tape) (d:=w.drawn) mv hsr;have hc2:=hcore2.wc;have hfin:SRl P Fc Gc (fun b=>b=false) .normal .normal [] [] [bottom f c] l0 ρ₁ (fr₁.finish (recvd ok x true)::l₁) (fr₁'.finish (recvd ok x true)::l₁'):=hsr.swap (fun _ _ h=>h.finish (zbh hplain ok _ _)) (kind_finish _ _) (kind_finish _ _);have hpv:∀b:Array Value,b=bp->put p.v c (.chan K b false b.size 0 false)=p.v:=fun b hb=>by subst hb;exact qO hcore.vpc
    by_cases hbn:0<buf.size
    ·
     obtain⟨k1,k2,k3,k4⟩:=zgn hcore.tb hbn
     have hxx:buf.getD 0 undef=x:=by rw[k4] at r3;exact Option.some.inj r3
     rcases h.ps with⟨yp,jp,hpn,hpre,hpm,hpb⟩|⟨y,z,a',hpn,hpf,hpm,hpx,hpsz,hpb⟩
     ·have hrun:=crowd_recv_buf (P:=P) (gs:=gs) (w:=w) (sl:=sl) (i:=0) h0 (show stepG P (0==0) _ w=_ from e1) hc2 hbn (partners_c_none h hpn hpre true);rw[hxx] at hrun;have hcore3:=hcore2.turn hcore2.lkp.st hfin (sent':=sent) (rcvd':=mc+1) (mp':=mp) (mc':=mc+1) (x:=va) (y:=vb+1) (bp':=bp) (bc':=bc.extract 1 bc.size) (buf':=buf.extract 1 buf.size) (closed':=false) hcore2.tp r1 k1 k2;rw[hpv bp rfl] at hcore3;have hso:∀op∈(#[{g:=0,fn:=(Go.Conc.G fr₁' l₁').frame.fn,pos:=(Go.Conc.G fr₁' l₁').frame.place,act:= .recv c mc cap},{g:=0,fn:=(Go.Conc.G fr₁' l₁').frame.fn,pos:=(Go.Conc.G fr₁' l₁').frame.place,act:= .recvDone c mc}]:Array MemOp),op.g=0/\Still op:=by
       intro op hop;simp only[List.mem_toArray,List.mem_cons,List.not_mem_nil,or_false] at hop;rcases hop with rfl|rfl<;>exact⟨rfl,by simp[Still,MemAct.touch?]⟩
      have hu:∀op∈MemOp.ofEvents 0 (Go.Conc.G q.fr' q.l').frame.fn (Go.Conc.G q.fr' q.l').frame.place es'++ #[({g:=0,fn:=(Go.Conc.G fr₁' l₁').frame.fn,pos:=(Go.Conc.G fr₁' l₁').frame.place,act:= .recv c mc cap}:MemOp),{g:=0,fn:=(Go.Conc.G fr₁' l₁').frame.fn,pos:=(Go.Conc.G fr₁' l₁').frame.place,act:= .recvDone c mc}],op.g=0\/op.g=n:=by
       intro op hop;rcases Array.mem_append.1 hop with k|k
       ·exact .inl (own_ops op k)
       ·exact .inl (hso op k).1
      refine Reach.step (hst.trans hrun) (hk _ _ _ _ _ _ m sent (mc+1) mp (mc+1) bp (bc.extract 1 bc.size) (buf.extract 1 buf.size) pb 1 rfl rfl rfl rfl rfl
       ⟨hcore3,still2 (duo_c h mv.ext hev hcore2.disj) (fun op hop=>(hso op hop).2),h.n0,h.cap0,h.sentL, .inl ⟨yp,jp,?_,hpre,hpm,hpb⟩, .inl ⟨?_,rfl,rfl⟩,qP h.others hu (.inl rfl),jO h.z_lt h.n_lt h.above hu⟩)
      ·rw[yl (Ne.symm h.n0)];exact hpn
      ·rw[yW h.z_lt,finishComm_recv];rfl
     ·have hrun:=wb (P:=P) (gs:=gs) (w:=w) (sl:=sl) (i:=0) h0 (show stepG P (0==0) _ w=_ from e1) hc2 hbn h.n0 hpn (partners_c_one h hpn);rw[hxx] at hrun;have hpush:=zaI (rcvd:=mc+1) k1 hpx k2;have hcore3:=hcore2.turn hcore2.lkp.st hfin (sent':=sent+1) (rcvd':=mc+1) (mp':=mp) (mc':=mc+1) (x:=va) (y:=vb+1) (bp':=bp) (bc':=bc.extract 1 bc.size) (buf':=(buf.extract 1 buf.size).push y) (closed':=false) hcore2.tp r1 hpush (by omega)
      rw[hpv bp rfl] at hcore3;generalize hops:(#[{g:=0,fn:=(Go.Conc.G fr₁' l₁').frame.fn,pos:=(Go.Conc.G fr₁' l₁').frame.place,act:= .recv c mc cap},{g:=0,fn:=(Go.Conc.G fr₁' l₁').frame.fn,pos:=(Go.Conc.G fr₁' l₁').frame.place,act:= .recvDone c mc},
       {g:=n,fn:=(Go.Conc.G a' p.l').frame.fn,pos:=(Go.Conc.G a' p.l').frame.place,act:= .send c sent},{g:=n,fn:=(Go.Conc.G a' p.l').frame.fn,pos:=(Go.Conc.G a' p.l').frame.place,act:= .sendDone c sent}]:Array MemOp)=ops at hrun
      have hso:∀op∈ops,(op.g=0\/op.g=n)/\Still op:=by
       intro op hop;subst hops;simp only[List.mem_toArray,List.mem_cons,List.not_mem_nil,or_false] at hop;rcases hop with rfl|rfl|rfl|rfl<;>simp[Still,MemAct.touch?]
      have hu:∀op∈MemOp.ofEvents 0 (Go.Conc.G q.fr' q.l').frame.fn (Go.Conc.G q.fr' q.l').frame.place es'++ops,op.g=0\/op.g=n:=by
       intro op hop;rcases Array.mem_append.1 hop with k|k
       ·exact .inl (own_ops op k)
       ·exact(hso op k).1
      have hsl:sent+1<=L.length:=by
       have:=(List.getElem?_eq_some_iff.1 hpx).1
       omega
      refine Reach.step (hst.trans hrun) (hk _ _ _ _ _ _ m (sent+1) (mc+1) mp (mc+1) bp (bc.extract 1 bc.size) ((buf.extract 1 buf.size).push y) 1 1 rfl rfl rfl rfl rfl
       ⟨hcore3,still2 (duo_c h mv.ext hev hcore2.disj) (fun op hop=>(hso op hop).2),h.n0,h.cap0,hsl, .inl ⟨_,0,?_,rfl,hpm,rfl⟩, .inl ⟨?_,rfl,rfl⟩,othersA_own h.others hu (.inr rfl) (.inl rfl),aboveA_own h.z_lt h.n_lt h.above hu⟩)
      ·rw[yl (Ne.symm h.n0),yW h.n_lt,finishComm_send];show some (Go.Conc.served (Go.Conc.G a' p.l') undef)=some (Go.Conc.G p.fr' p.l');rw[hpf];rfl
      ·rw[yW (by rw[Array.size_setIfInBounds];exact h.z_lt),finishComm_recv];rfl
    ·
     have hbe:buf= #[]:=Array.eq_empty_of_size_eq_zero (by omega)
     subst hbe;have hps:∃y j,gs[n]? =some y/\Pre P j y (Go.Conc.G p.fr' p.l')/\mp=sent/\pb=1+j:=by
      rcases h.ps with e|⟨x,z,a',e,_,_,hx,hsz,_⟩
      ·exact e
      ·have:=h.cap0
       simp at hsz;omega
     obtain⟨yp,jp,hpn,hpre,hpm,hpb⟩:=hps
     have hrun:=crowd_waits (P:=P) (gs:=gs) (w:=w) (sl:=sl) (i:=0) h0 (show stepG P (0==0) _ w=_ from e1) (by
      intro y hy;have e:y=rcase c cc'.zero:=by simpa using hy
      subst e;exact ways_recv_none hc2 (partners_c_none h hpn hpre true))
     have hcore3:=hcore2.turn hcore2.lkp.st hfin (sent':=sent) (rcvd':=mc) (mp':=mp) (mc':=mc+1) (x:=va) (y:=vb+1) (bp':=bp) (bc':=bc.extract 1 bc.size) (buf':= #[]) (closed':=false) hcore2.tp r1 hcore2.tb hcore2.le;rw[qO hc2,hpv bp rfl] at hcore3;have hu:∀op∈MemOp.ofEvents 0 (Go.Conc.G q.fr' q.l').frame.fn (Go.Conc.G q.fr' q.l').frame.place es',op.g=0\/op.g=n:=fun op hop=> .inl (own_ops op hop);refine Reach.step (hst.trans hrun) (hk _ _ _ _ _ _ m sent mc mp (mc+1) bp (bc.extract 1 bc.size) #[] pb 0 rfl rfl rfl rfl rfl
      ⟨hcore3,duo_c h mv.ext hev hcore2.disj,h.n0,h.cap0,h.sentL, .inl ⟨yp,jp,?_,hpre,hpm,hpb⟩, .inr (.inl ⟨x,cc'.zero,ok,fr₁',yW h.z_lt,rfl,rfl,r3,rfl,rfl⟩),qP h.others hu (.inl rfl),jO h.z_lt h.n_lt h.above hu⟩)
     rw[yl (Ne.symm h.n0)];exact hpn
   ·exfalso;have hbe:bc= #[]:=Array.eq_empty_of_size_eq_zero (by omega)
    subst hbe;have:=jS e2 hvc2 hstep
    rw[hrun'] at this;cases this
end
open Go.Conc
open Go.ConcN (sumTo upd sumTo_upd upd_ne upd_same)
section
variable {P:Program} {Fp Fc:FuncId->Prop} {Gp Gc:Nat->Prop} {f:FuncId} {n c cap K:Nat} {L:List Value} {closeD:Deferred} {child:Frame} {l0:List Frame} {w0:World} {Gb:Nat->Prop} {p q:Nd} {gs:Array Goroutine} {w:World} {sl:Option (Nat×Nat)} {t:Trace} {m:Nat->Nat} {sent rcvd mp mc pb cb:Nat} {bp bc buf:Array Value}
 {Xc Xp:Goroutine->World->Prop} {Fin:Array Goroutine->World->Option (Nat×Nat)->Trace->Prop}
theorem noRec_child(child:Frame)(hch:child.mode= .panicking [goexitEntry]):NoRec .deferred [child]:=by
 refine⟨fun fr h=>?_,by simp⟩
 unfold tryRecover;rw[h];dsimp only;rw[hch];rfl
theorem zbg{L:List Value}{b:Array Value}{x:Value}{mp:Nat}(hb:b.toList=L.take mp)(hmp:mp<=L.length)(h:(b.push x).toList <+: L):L[mp]? =some x/\(b.push x).toList=L.take (mp+1):=by
 have hl:b.size=mp:=by
  have:=congrArg List.length hb
  simp at this;omega
 have h2:(b.push x).toList=L.take (mp+1):=by
  have:=List.prefix_iff_eq_take.1 h
  rw[this];simp[hl]
 refine⟨?_,h2⟩;have h3:(b.push x).toList[mp]? =some x:=by
  rw[Array.toList_push,List.getElem?_append_right (by simp[hl])]
  simp[hl]
 rw[h2,List.getElem?_take] at h3;simpa using h3
theorem roundA_p(hPp:SimP P Fp Gp (fun b=>b=true))(hL:∀x∈L,PlainV x)(hch:child.mode= .panicking [goexitEntry])(hX1:∀g v,Xp g v->g.callers≠[])(hX2:∀g w (b:Array Value) n r,Xp g w->w.heap[c]? =some (.chan K b false n r false)->b.toList=L)
 (h:PhA P Fp Fc Gp Gc f n c cap K L closeD child l0 w0 Gb p q gs w t m sent rcvd mp mc bp bc buf pb cb) (hn:gs[n]? =some (Go.Conc.G p.fr' p.l')) (hmp:mp=sent) (hpb:pb=1) (hMq:Must P Xc (Go.Conc.G q.fr q.l) q.v)
 (hgo:Goes1 [] [bottom f c] p.fr p.l) (hkid:∀T d,∃g' v',step P (solo (Go.Conc.G p.fr p.l) (re p.v T d))= .next (solo g' v')/\g'.status= .running/\Must P Xp g' v'/\NextP P Fp Fc Gp Gc f n c cap K L closeD child l0 w0 Gb Xc Fin g' v')
 {w':World} {sl':Option (Nat×Nat)} (hst:stepT P (crowd gs w' sl')=runT P (crowd gs w sl) n):Reach P Fin gs w' sl' t:=by
 have hcore:=h.core;have only:jA p.ρ p.v c:=hcore.onlyp;obtain⟨va,vb,hvc⟩:=hcore.vcc
 subst hmp;subst hpb
 have hn0:(n==0)=false:=by have:=h.n0;simp;omega
 obtain⟨g',v',hstep,hrun',hMp,hk⟩:=hkid w.tape w.drawn
 rcases node_step hPp (noRec_normal _) (noRec_child child hch) hcore.lkp hgo hstep false with⟨ρ₁,fr₁,l₁,fr₁',l₁',w₂,es',e1,e2,mv,hsr,hev⟩|⟨ρ₁,fr₁,l₁,fr₁',l₁',v₂,w₂,es,es',cc,cc',s,e1,e2,hcc,hD,hsh,mv,hsr,hev⟩
 ·
  have hcore2:=hcore.p_moved (T:=w.tape) (d:=w.drawn) mv hsr;have hrun:=runT_crowd_go (P:=P) (gs:=gs) (w:=w) (sl:=sl) (i:=n) hn (show stepG P (n==0) _ w=_ by rw[hn0];exact e1)
  rw[jj (wg h hcore2.wc)] at hrun;have hu:∀op∈MemOp.ofEvents n (Go.Conc.G p.fr' p.l').frame.fn (Go.Conc.G p.fr' p.l').frame.place es',op.g=0\/op.g=n:=fun op hop=> .inr (own_ops op hop);refine Reach.step (hst.trans hrun) (hk ⟨ρ₁,fr₁,l₁,fr₁',l₁',v'⟩ q _ _ _ _ m mp rcvd mp mc bp bc buf 1 cb e2 rfl hMq
   ⟨hcore2,duo_p h mv.ext hev hcore2.disj,h.n0,h.cap0,h.sentL, .inl ⟨_,0,yW h.n_lt,rfl,rfl,rfl⟩,?_,qP h.others hu (.inr rfl),jO h.z_lt h.n_lt h.above hu⟩)
  rw[yl h.n0];exact h.cst
 ·
  obtain⟨q1,q2⟩:=chan_of hcc e2 hstep hrun' (xE mv only)
  obtain⟨x,hx⟩:∃x,cc.send=some x:=Option.isSome_iff_exists.1 hD
  obtain⟨x',hx',hxx⟩:∃x',cc'.send=some x'/\VRel Fp ρ₁ x x':=by
   have:=hcc.send
   rw[hx] at this;generalize cc'.send=y at this;cases this with
   |some k=>exact⟨_,rfl,k⟩
  have hs':s= .send:=by
   cases s with
   |send=>rfl
   |recv ok=>have:=hsh cc (by simp);rw[hx] at this;cases this
   |select=>exact hsh.elim
  subst hs';rw[uu q1 hx] at e2;rw[uu q2 hx'] at e1;have hvp2:v₂.heap[c]? =some (.chan K bp false bp.size 0 false):=mv.chan c _ hcore.vpc rfl;have hbs:bp.size<=L.length:=by
   have:=congrArg List.length hcore.tp
   simp at this;omega
  have hroomK:bp.size<K:=Nat.lt_of_le_of_lt hbs hcore.room;obtain⟨rfl,rfl⟩:=gy e2 hvp2 hroomK hstep
  have hcore2:=hcore.p_moved (T:=w.tape) (d:=w.drawn) mv hsr;have hc2:=hcore2.wc;have hfin:SRl P Fp Gp (fun b=>b=true) .normal .deferred [] [closeD] [bottom f c] [child] ρ₁ (fr₁.finish undef::l₁) (fr₁'.finish undef::l₁'):=hsr.swap (fun _ _ h=>h.finish .undefs) (kind_finish _ _) (kind_finish _ _);have hl₂:=hcore2.lkp;have hself:Lk P Fp Gp (fun b=>b=true) .normal .deferred [] [closeD] [bottom f c] [child] ρ₁ (fr₁.finish undef) l₁ (fr₁'.finish undef) l₁' (v₂.setChan c K (bp.push x) false (bp.size+1) 0 false) (put w₂ c (.chan K (bp.push x) false (bp.size+1) 0 false)):=by
   rw[xe];exact⟨hl₂.st.swap (fun _ _ h=>h.finish .undefs) (kind_finish _ _) (kind_finish _ _),hl₂.one,ky hl₂.one.inj hcore2.sp hl₂.rel (.chan ..),hl₂.os,by rw[yv];exact hl₂.sz,by rw[yv];exact hl₂.sz',hl₂.glob⟩
  have hpre:=zbm hPp (noRec_child child hch) hX1 hX2 _ _ hMp ρ₁ _ l₁ _ l₁' _ (bp.push x) (bp.size+1) 0 rfl hself hcore2.sp (by rw[xe];exact gu ⟨_,hvp2,rfl⟩ (xE mv only)) (by rw[xe];exact put_at (lt_of_some hvp2))
  obtain⟨hLx,htp⟩:=zbg hcore.tp h.sentL hpre
  have hplain:=hL x (List.mem_of_getElem? hLx);have hxeq:x'=x:=hplain.fix _ _ _ hxx;subst hxeq;have hlt:mp<L.length:=(List.getElem?_eq_some_iff.1 hLx).1;have hpv:put v₂ c (.chan K (bp.push x') false (bp.push x').size 0 false)=v₂.setChan c K (bp.push x') false (bp.size+1) 0 false:=by rw[Array.size_push,xe]
  have hqv:put q.v c (.chan K bc false va vb false)=q.v:=qO hvc;rcases h.cst with⟨h0,hmc,hcb⟩|⟨y,z,ok,b',h0,hqf,hmc,hLy,hbn,hcb⟩|⟨z,ok,h0,hmc,hrl,hcb⟩
  ·by_cases hroom:buf.size<cap
   ·
    have hrun:=crowd_send_room (P:=P) (gs:=gs) (w:=w) (sl:=sl) (i:=n) hn (show stepG P (n==0) _ w=_ by rw[hn0];exact e1) hc2 hroom (partners_p_none h h0 false)
    have hcore3:=hcore2.turn hfin hcore2.lkc.st (sent':=mp+1) (rcvd':=rcvd) (mp':=mp+1) (mc':=mc) (x:=va) (y:=vb) (bp':=bp.push x') (bc':=bc) (buf':=buf.push x') (closed':=false) htp hcore2.tc (zaI hcore.tb hLx hcore.le) (by have:=hcore.le;omega)
    rw[hqv,hpv] at hcore3;have hso:∀op∈(#[{g:=n,fn:=(Go.Conc.G fr₁' l₁').frame.fn,pos:=(Go.Conc.G fr₁' l₁').frame.place,act:= .send c mp},{g:=n,fn:=(Go.Conc.G fr₁' l₁').frame.fn,pos:=(Go.Conc.G fr₁' l₁').frame.place,act:= .sendDone c mp}]:Array MemOp),op.g=n/\Still op:=by
     intro op hop;simp only[List.mem_toArray,List.mem_cons,List.not_mem_nil,or_false] at hop;rcases hop with rfl|rfl<;>exact⟨rfl,by simp[Still,MemAct.touch?]⟩
    have hu:∀op∈MemOp.ofEvents n (Go.Conc.G p.fr' p.l').frame.fn (Go.Conc.G p.fr' p.l').frame.place es'++ #[({g:=n,fn:=(Go.Conc.G fr₁' l₁').frame.fn,pos:=(Go.Conc.G fr₁' l₁').frame.place,act:= .send c mp}:MemOp),{g:=n,fn:=(Go.Conc.G fr₁' l₁').frame.fn,pos:=(Go.Conc.G fr₁' l₁').frame.place,act:= .sendDone c mp}],op.g=0\/op.g=n:=by
     intro op hop;rcases Array.mem_append.1 hop with k|k
     ·exact .inr (own_ops op k)
     ·exact .inr (hso op k).1
    refine Reach.step (hst.trans hrun) (hk _ q _ _ _ _ m (mp+1) rcvd (mp+1) mc (bp.push x') bc (buf.push x') 1 cb rfl rfl hMq
     ⟨hcore3,still2 (duo_p h mv.ext hev hcore2.disj) (fun op hop=>(hso op hop).2),h.n0,h.cap0,hlt, .inl ⟨_,0,?_,rfl,rfl,rfl⟩, .inl ⟨?_,hmc,hcb⟩,qP h.others hu (.inr rfl),jO h.z_lt h.n_lt h.above hu⟩)
    ·rw[yW h.n_lt,finishComm_send];rfl
    ·rw[yl h.n0];exact h0
   ·
    have hrun:=crowd_waits (P:=P) (gs:=gs) (w:=w) (sl:=sl) (i:=n) hn (show stepG P (n==0) _ w=_ by rw[hn0];exact e1) (by
     intro y hy;have e:y=scase c x' cc'.zero:=by simpa using hy
     subst e;exact ways_send_none hc2 (by omega) (partners_p_none h h0 false))
    have hcore3:=hcore2.turn hfin hcore2.lkc.st (sent':=mp) (rcvd':=rcvd) (mp':=mp+1) (mc':=mc) (x:=va) (y:=vb) (bp':=bp.push x') (bc':=bc) (buf':=buf) (closed':=false) htp hcore2.tc hcore2.tb hcore2.le;rw[hqv,hpv,qO hc2] at hcore3;have hu:∀op∈MemOp.ofEvents n (Go.Conc.G p.fr' p.l').frame.fn (Go.Conc.G p.fr' p.l').frame.place es',op.g=0\/op.g=n:=fun op hop=> .inr (own_ops op hop);refine Reach.step (hst.trans hrun) (hk _ q _ _ _ _ m mp rcvd (mp+1) mc (bp.push x') bc buf 0 cb rfl rfl hMq
     ⟨hcore3,duo_p h mv.ext hev hcore2.disj,h.n0,h.cap0,h.sentL, .inr ⟨x',cc'.zero,fr₁',yW h.n_lt,rfl,rfl,hLx,by omega,rfl⟩, .inl ⟨?_,hmc,hcb⟩,qP h.others hu (.inr rfl),jO h.z_lt h.n_lt h.above hu⟩)
    rw[yl h.n0];exact h0
  ·
   have hry:rcvd<L.length:=(List.getElem?_eq_some_iff.1 hLy).1;have hsr2:mp=rcvd:=zb4 (by rw[<-hcore.tb,hbn]) hry hcore.le
   subst hbn;have hyx:y=x':=by rw[<-hsr2,hLx] at hLy;exact(Option.some.inj hLy).symm
   subst hyx;have hrun:=crowd_send_meets (P:=P) (gs:=gs) (w:=w) (sl:=sl) (i:=n) hn (show stepG P (n==0) _ w=_ by rw[hn0];exact e1) hc2 (Ne.symm h.n0) h0 (partners_p_one h h0)
   have hcore3:=hcore2.turn hfin hcore2.lkc.st (sent':=mp+1) (rcvd':=rcvd+1) (mp':=mp+1) (mc':=mc) (x:=va) (y:=vb) (bp':=bp.push y) (bc':=bc) (buf':= #[]) (closed':=false) htp hcore2.tc (by rw[hsr2];simp) (by omega)
   rw[hqv,hpv] at hcore3;generalize hops:(#[{g:=n,fn:=(Go.Conc.G fr₁' l₁').frame.fn,pos:=(Go.Conc.G fr₁' l₁').frame.place,act:= .send c mp},{g:=0,fn:=(Go.Conc.G b' q.l').frame.fn,pos:=(Go.Conc.G b' q.l').frame.place,act:= .recv c rcvd cap},
    {g:=n,fn:=(Go.Conc.G fr₁' l₁').frame.fn,pos:=(Go.Conc.G fr₁' l₁').frame.place,act:= .sendDone c mp},{g:=0,fn:=(Go.Conc.G b' q.l').frame.fn,pos:=(Go.Conc.G b' q.l').frame.place,act:= .recvDone c rcvd}]:Array MemOp)=ops at hrun
   have hso:∀op∈ops,(op.g=0\/op.g=n)/\Still op:=by
    intro op hop;subst hops;simp only[List.mem_toArray,List.mem_cons,List.not_mem_nil,or_false] at hop;rcases hop with rfl|rfl|rfl|rfl<;>simp[Still,MemAct.touch?]
   have hu:∀op∈MemOp.ofEvents n (Go.Conc.G p.fr' p.l').frame.fn (Go.Conc.G p.fr' p.l').frame.place es'++ops,op.g=0\/op.g=n:=by
    intro op hop;rcases Array.mem_append.1 hop with k|k
    ·exact .inr (own_ops op k)
    ·exact(hso op k).1
   refine Reach.step (hst.trans hrun) (hk _ q _ _ _ _ m (mp+1) (rcvd+1) (mp+1) mc (bp.push y) bc #[] 1 1 rfl rfl hMq
    ⟨hcore3,still2 (duo_p h mv.ext hev hcore2.disj) (fun op hop=>(hso op hop).2),h.n0,h.cap0,hlt, .inl ⟨_,0,?_,rfl,rfl,rfl⟩, .inl ⟨?_,hmc,rfl⟩,othersA_own h.others hu (.inl rfl) (.inr rfl),aboveA_own h.z_lt h.n_lt h.above hu⟩)
   ·rw[yW (by rw[Array.size_setIfInBounds];exact h.n_lt),finishComm_send];rfl
   ·rw[yl h.n0,yW h.z_lt,finishComm_recv];show some (Go.Conc.served (Go.Conc.G b' q.l') (recvd ok y true))=some (Go.Conc.G q.fr' q.l');rw[hqf];rfl
  ·exfalso;have:=hcore.le
   omega
end
open Go.Conc
open Go.ConcN (sumTo upd sumTo_upd upd_ne upd_same)
section
variable {P:Program} {Fp Fc:FuncId->Prop} {Gp Gc:Nat->Prop} {f:FuncId} {n c cap K:Nat} {L:List Value} {closeD:Deferred} {child:Frame} {l0:List Frame} {w0:World} {Gb:Nat->Prop} {p q:Nd} {gs:Array Goroutine} {w:World} {sl:Option (Nat×Nat)} {t:Trace} {m:Nat->Nat} {sent rcvd mp mc pb cb:Nat} {bp bc buf:Array Value}
 {Xc Xp:Goroutine->World->Prop} {Fin:Array Goroutine->World->Option (Nat×Nat)->Trace->Prop}
def zM(ts:Array TypeId)(ty:TypeId)(cn:Array Bool)(c:Nat):Deferred:={target:= .builtin .close ts ty cn,args:= #[.chan (some c)]}
def under(P:Program):Frame:={(default:Frame) with fn:=P.funcs.size,defers:=[],mode:= .panicking [goexitEntry]}
theorem zdJ{fn:FuncId}{e1 e2:Event}(h1:e1.sync=true)(h2:e2.sync=true)(g1:∀f,e1.loc≠ .mark (.extern f))(g2:∀f,e2.loc≠ .mark (.extern f)):seen P fn #[e1,e2]= #[e1,e2]:=by
 unfold seen;obtain⟨l1,a1,s1⟩:=e1
 obtain⟨l2,a2,s2⟩:=e2
 simp only at h1 h2 g1 g2
 subst h1;subst h2
 cases l1 with
 |mark m=>cases m<;>first|exact absurd rfl (g1 _)|(cases l2 with
  |mark m2=>cases m2<;>first|exact absurd rfl (g2 _)|simp
  |_=>simp)
 |_=>cases l2 with
  |mark m2=>cases m2<;>first|exact absurd rfl (g2 _)|simp
  |_=>simp
theorem zcX{fr:Frame}{l:List Frame}{ts:Array TypeId}{ty:TypeId}{cn:Array Bool}(hm:fr.mode= .returning)(hd:fr.defers=[zM ts ty cn c]){s r:Nat}(hc:w.heap[c]? =some (.chan cap buf false s r false))(b:Bool):
 stepG P b (Go.Conc.G fr l) w= .go (Go.Conc.G {fr with defers:=[]} l) (put w c (.chan cap buf true s r false)) #[⟨.obj c,false,true⟩,⟨.obj c,true,true⟩]:=by
 have e0:stepG P b (Go.Conc.G fr l) w=unwind P b fr l none w:=by
  unfold stepG Go.Conc.G;dsimp only;rw[hm]
 rw[e0];unfold unwind;rw[hd];show callDeferred P {fr with defers:=[]} l none (zM ts ty cn c) w=_;unfold callDeferred;rw[if_neg (by simp[zM])]
 have hrun:(invoke (zM ts ty cn c).target (zM ts ty cn c).args).runT P w #[]=(.ok (.value (.tuple #[])) (put w c (.chan cap buf true s r false)),#[⟨.obj c,false,true⟩,⟨.obj c,true,true⟩]):=by
  change Sem.runT P (Sem.getObj c _) w #[]=_;rw[Sem.runT,hc];dsimp only
  change Sem.runT P (Sem.setObj c _ _) w _=_;rw[Sem.runT,hc];rfl
 rw[hrun];dsimp only;rw[zdJ rfl rfl (by simp) (by simp)]
 simp[GStep.after,Go.Conc.G]
theorem quits_closed{fr:Frame}{fn:Func}(hm:fr.mode= .returning)(hd:fr.defers=[])(hk:fr.kind= .deferred)(hf:P.funcs[fr.fn]? =some fn)(hr:fn.results= #[]):QuitsD P 2 0 (Go.Conc.G fr [under P]):=by
 have s2:∀w,stepG P false (Go.Conc.G (under P) []) w= .go {frame:=under P,callers:=[],status:= .finished,dying:=none} w:=by
  intro w;unfold stepG Go.Conc.G under;dsimp only;unfold unwind;dsimp only;have hc:Frame.catches P {(default:Frame) with fn:=P.funcs.size,defers:=[],mode:= .panicking [goexitEntry]}=false:=by
   unfold Frame.catches;have:P.funcs[P.funcs.size]? =none:=Array.getElem?_eq_none (Nat.le_refl _)
   rw[this];rfl
  rw[hc];rfl
 have s1:∀w,stepG P false (Go.Conc.G fr [under P]) w= .go (Go.Conc.G (under P) []) w:=by
  intro w;have e0:stepG P false (Go.Conc.G fr [under P]) w=unwind P false fr [under P] none w:=by
   unfold stepG Go.Conc.G;dsimp only;rw[hm]
  rw[e0];unfold unwind;rw[hd];dsimp only;rw[hm];dsimp only;rw[hf];dsimp only;have hres:(results fn fr.tmps).runT P w #[]=(.ok (.tuple #[]) w,#[]):=Prod.ext (by rw[<-xP];exact results_none hr _ P w) (events_results_none hr _ _)
  rw[hres];dsimp only;unfold doReturn;rw[hk];rfl
 exact .ctl rfl s1 (.ctl rfl s2 ⟨rfl,rfl⟩)
def jE(P:Program)(f:FuncId)(c K:Nat)(L:List Value)(g:Goroutine)(v:World):Prop:=
 ∃fr,g=Go.Conc.G fr [bottom f c]/\fr.mode= .returning/\fr.defers=[]/\(∃fn,P.funcs[fr.fn]? =some fn/\fn.results= #[])/\∀(b:Array Value) n r,v.heap[c]? =some (.chan K b false n r false)->b.toList=L
theorem zi6{g g' x:Goroutine}{w':World}(hm:g.frame.mode= .returning)(hs:g'.status= .running):woken P g g' w' x=x.again w':=by
 unfold woken mayWake;rw[hm,hs];simp
theorem roundA_close{ts:Array TypeId}{ty:TypeId}{cn:Array Bool}(hX:∀g v,Xp g v->jE P f c K L g v)(hXv:∀g v,Xp g v->∀y:Nat,Gb y->y≠c->∃o,v.heap[y]? =some o/\Pins o (w0.heap[y]?))
 (h:PhA P Fp Fc Gp Gc f n c cap K L (zM ts ty cn c) (under P) l0 w0 Gb p q gs w t m sent rcvd mp mc bp bc buf pb cb) (hn:gs[n]? =some (Go.Conc.G p.fr' p.l')) (hmp:mp=sent) (hMq:Must P Xc (Go.Conc.G q.fr q.l) q.v)
 (hend:∀T d,Xp (Go.Conc.G p.fr p.l) (re p.v T d))
 (hB:∀(p q:Nd) (gs:Array Goroutine) (w:World) (sl:Option (Nat×Nat)) (t:Trace) (m:Nat->Nat) (rcvd:Nat) (bp bc buf:Array Value),Must P Xc (Go.Conc.G q.fr q.l) q.v->PhB P Fp Fc Gp Gc f n c cap K L (zM ts ty cn c) (under P) l0 w0 Gb p q gs w t m rcvd bp bc buf->Reach P Fin gs w sl t)
 {w':World} {sl':Option (Nat×Nat)} (hst:stepT P (crowd gs w' sl')=runT P (crowd gs w sl) n):Reach P Fin gs w' sl' t:=by
 have hcore:=h.core;obtain⟨va,vb,hvc⟩:=hcore.vcc
 obtain⟨fr,eG,hmode,hdef,⟨fn,hfn,hres⟩,hch⟩:=hX _ _ (hend w.tape w.drawn)
 have eG':=eG;simp only[Go.Conc.G,Goroutine.mk.injEq,and_true] at eG';obtain⟨e1,e2⟩:=eG'
 subst e1;have hbL:bp.toList=L:=hch bp _ _ hcore.vpc;have hst1:=hcore.lkp.st;rw[e2] at hst1;have hfr:p.l'=[under P]/\p.fr'.mode= .returning/\p.fr'.defers=[zM ts ty cn c]/\p.fr'.kind= .deferred/\p.fr'.fn=p.fr.fn:=by
  generalize hll:[bottom f c]=ll at hst1;generalize hl2:p.l'=l2 at hst1;have key:∀{a b:List Frame},SRl P Fp Gp (fun b=>b=true) .normal .deferred [] [zM ts ty cn c] [bottom f c] [under P] p.ρ a b->2<=a.length:=by
   intro a b hab;cases hab with
   |base=>simp
   |push _ _ _ hab=>cases hab<;>simp
  subst hll;cases hst1 with
  |base hF hk hk'=>
   refine⟨rfl,?_,?_,hk',hF.fn⟩
   ·have:=hF.mode
    rw[hmode] at this;generalize p.fr'.mode=y at this;cases this;rfl
   ·have:=hF.defers
    rw[hdef] at this;generalize p.fr'.defers=y at this;cases this;rfl
  |push hF hk hk' hl=>
   have:=key hl
   simp at this
 obtain⟨hl',hmode',hdef',hkind',hfn'⟩:=hfr
 have hn0:(n==0)=false:=by have:=h.n0;simp;omega
 have hmL:L.length<=mp:=by
  have:=congrArg List.length hcore.tp
  rw[hbL] at this;simp at this;omega
 have hsL:sent=L.length:=by have:=h.sentL;omega
 subst hsL;subst hmp;have hs1:=zcX (P:=P) (fr:=p.fr') (l:=p.l') hmode' hdef' hcore.wc false;have hrun:=runT_crowd_go (P:=P) (gs:=gs) (w:=w) (sl:=sl) (i:=n) hn (show stepG P (n==0) _ w=_ by rw[hn0];exact hs1)
 have hcw:(put w c (.chan cap buf true L.length rcvd false)).heap[c]? =some (.chan cap buf true L.length rcvd false):=put_at (lt_of_some hcore.wc);have hcore2:=hcore.turn hcore.lkp.st hcore.lkc.st (sent':=L.length) (rcvd':=rcvd) (mp':=L.length) (mc':=mc) (x:=va) (y:=vb) (bp':=bp) (bc':=bc) (buf':=buf) (closed':=true) hcore.tp hcore.tc hcore.tb hcore.le;rw[qO hcore.vpc,qO hvc] at hcore2;have d1:=h.duo.prod (u:= #[({g:=n,fn:=(Go.Conc.G p.fr' p.l').frame.fn,pos:=(Go.Conc.G p.fr' p.l').frame.place,act:= .access ⟨.obj c,false,true⟩}:MemOp)]) (fun b k=>k) (fun b k1 k2=>by
  obtain⟨x,hx⟩:=k1.1
  obtain⟨y,hy⟩:=k2.1
  exact k2.2 (hcore.disj x y b hx hy)) (fun k=>k.2 rfl) (by intro op hop;have:op=_:=List.mem_singleton.1 (by simpa using hop);rw[this]) (by
   intro op hop;simp only[List.mem_toArray,List.mem_singleton] at hop;subst hop;intro a ha hma;simp only[MemAct.touch?,Option.some.injEq] at ha;subst ha;exact⟨c,rfl, .inr ⟨rfl,rfl⟩⟩) (by
   intro op hop;simp only[List.mem_toArray,List.mem_singleton] at hop;subst hop;simp)
 have d2:=d1.closes (y:={g:=n,fn:=(Go.Conc.G p.fr' p.l').frame.fn,pos:=(Go.Conc.G p.fr' p.l').frame.place,act:= .close c}) rfl rfl;have hops:MemOp.ofEvents n (Go.Conc.G p.fr' p.l').frame.fn (Go.Conc.G p.fr' p.l').frame.place #[⟨.obj c,false,true⟩,⟨.obj c,true,true⟩]= #[{g:=n,fn:=(Go.Conc.G p.fr' p.l').frame.fn,pos:=(Go.Conc.G p.fr' p.l').frame.place,act:= .access ⟨.obj c,false,true⟩},{g:=n,fn:=(Go.Conc.G p.fr' p.l').frame.fn,pos:=(Go.Conc.G p.fr' p.l').frame.place,act:= .close c}]:=by rw[ofEvents_eq];simp[MemAct.ofEvent]
 rw[hops] at hrun;generalize hopsg:(#[{g:=n,fn:=(Go.Conc.G p.fr' p.l').frame.fn,pos:=(Go.Conc.G p.fr' p.l').frame.place,act:= .access ⟨.obj c,false,true⟩},{g:=n,fn:=(Go.Conc.G p.fr' p.l').frame.fn,pos:=(Go.Conc.G p.fr' p.l').frame.place,act:= .close c}]:Array MemOp)=ops at hrun;have hu:∀op∈ops,op.g=n:=by
  intro op hop;subst hopsg;simp only[List.mem_toArray,List.mem_cons,List.not_mem_nil,or_false] at hop;rcases hop with rfl|rfl<;>rfl
 have hdt:t++ops=(t++ #[({g:=n,fn:=(Go.Conc.G p.fr' p.l').frame.fn,pos:=(Go.Conc.G p.fr' p.l').frame.place,act:= .access ⟨.obj c,false,true⟩}:MemOp)])++ #[({g:=n,fn:=(Go.Conc.G p.fr' p.l').frame.fn,pos:=(Go.Conc.G p.fr' p.l').frame.place,act:= .close c}:MemOp)]:=by
  subst hopsg;apply Array.ext';simp
 have hdn:Deaf (t++ops) n=0:=by
  rw[deaf_still (by
   intro op hop;subst hopsg;simp only[List.mem_toArray,List.mem_cons,List.not_mem_nil,or_false] at hop;rcases hop with rfl|rfl<;>simp)]
  exact h.duo.hn
 have hwk:∀x,woken P (Go.Conc.G p.fr' p.l') (Go.Conc.G {p.fr' with defers:=[]} p.l') (put w c (.chan cap buf true L.length rcvd false)) x=x.again (put w c (.chan cap buf true L.length rcvd false)):=fun x=>zi6 hmode' rfl;have hmc:mc=rcvd/\∃o,(gs.map (woken P (Go.Conc.G p.fr' p.l') (Go.Conc.G {p.fr' with defers:=[]} p.l') (put w c (.chan cap buf true L.length rcvd false))))[0]? =some {Go.Conc.G q.fr' q.l' with offers:=o}:=by
  rw[Array.getElem?_map];rcases h.cst with⟨h0,hmc,_⟩|⟨y,z,ok,b',h0,hqf,hmc,hLy,hbn,_⟩|⟨z,ok,h0,hmc,hrl,_⟩
  ·refine⟨hmc,none,?_⟩;rw[h0,Option.map_some,hwk,again_running _ (.inl rfl)];rfl
  ·exfalso;have hry:rcvd<L.length:=(List.getElem?_eq_some_iff.1 hLy).1;have:=zb4 (by rw[<-hcore.tb,hbn]) hry hcore.le
   omega
  ·refine⟨hmc,some (#[rcase c z], .recv ok),?_⟩;rw[h0,Option.map_some,hwk,again_recv_closed hcw];rfl
 obtain⟨rfl,o,hz⟩:=hmc
 refine Reach.step (hst.trans hrun) (hB p q _ _ _ _ (upd m n 2) mc bp bc buf hMq ⟨hcore2,⟨_,_,fun b k=>k,by rw[hdt];exact d2⟩,⟨o,?_⟩,fun j x hj hx=>?_,fun j hj=>?_,fun y hy hyc=>hXv _ _ (hend w.tape w.drawn) y hy hyc⟩)
 ·rw[yl h.n0];exact hz
 ·rcases set_get hx with⟨rfl,rfl⟩|⟨hjn,hx⟩
  ·rw[upd_same,hdn,hl'];exact quits_closed (fr:={p.fr' with defers:=[]}) hmode' rfl hkind' (by rw[hfn'];exact hfn) hres
  ·rw[Array.getElem?_map] at hx;obtain⟨y,hy,rfl⟩:=Option.map_eq_some_iff.1 hx
   have hq:=h.others j y hj hjn hy;rw[woken_quitsD hq,upd_ne m 2 hjn,Deaf_other t (g':=n) (Ne.symm hjn) ops hu];exact hq
 ·have hj':gs.size<=j:=by simpa using hj
  have:=h.n_lt
  rw[Deaf_other t (g':=n) (by omega) ops hu]
  exact h.above j hj'
end
open Go.Conc
open Go.ConcN (sumTo upd sumTo_upd upd_ne upd_same)
section
variable {P:Program} {Fp Fc:FuncId->Prop} {Gp Gc:Nat->Prop} {f:FuncId} {n c cap K:Nat} {L:List Value} {l0:List Frame} {w0:World} {Gb:Nat->Prop} {p q:Nd} {gs:Array Goroutine} {w:World} {sl:Option (Nat×Nat)} {t:Trace} {m:Nat->Nat} {sent rcvd mp mc pb cb:Nat} {bp bc buf:Array Value}
 {Xc Xp:Goroutine->World->Prop} {Fin:Array Goroutine->World->Option (Nat×Nat)->Trace->Prop} {ts:Array TypeId} {ty:TypeId} {cn:Array Bool}
def Alt(P:Program)(X Kid:Goroutine->World->Prop)(g:Goroutine)(v:World):Prop:=
 (∀T d,X g (re v T d))\/∀T d,∃g' v',step P (solo g (re v T d))= .next (solo g' v')/\g'.status= .running/\Must P X g' v'/\Kid g' v'
theorem zdL(hPp:SimP P Fp Gp (fun b=>b=true))(hPc:SimP P Fc Gc (fun b=>b=false))(hL:∀x∈L,PlainV x)(hXp:∀g v,Xp g v->jE P f c K L g v)(hXv:∀g v,Xp g v->∀y:Nat,Gb y->y≠c->∃o,v.heap[y]? =some o/\Pins o (w0.heap[y]?))(hXc:∀g v,Xc g v->jk P f c K g v)
 (h:PhA P Fp Fc Gp Gc f n c cap K L (zM ts ty cn c) (under P) l0 w0 Gb p q gs w t m sent rcvd mp mc bp bc buf pb cb) (hMp:Must P Xp (Go.Conc.G p.fr p.l) p.v) (hMq:Must P Xc (Go.Conc.G q.fr q.l) q.v)
 (hp:Alt P Xp (NextP P Fp Fc Gp Gc f n c cap K L (zM ts ty cn c) (under P) l0 w0 Gb Xc Fin) (Go.Conc.G p.fr p.l) p.v)
 (hq:Alt P Xc (zdm P Fp Fc Gp Gc f n c cap K L (zM ts ty cn c) (under P) l0 w0 Gb Fin p) (Go.Conc.G q.fr q.l) q.v)
 (hin:zg9 P Fp Fc Gp Gc f n c cap K L (zM ts ty cn c) (under P) l0 w0 Gb Fin p q (pb+cb+sumTo gs.size m))
 (hB:∀(p q:Nd) (gs:Array Goroutine) (w:World) (sl:Option (Nat×Nat)) (t:Trace) (m:Nat->Nat) (rcvd:Nat) (bp bc buf:Array Value),Must P Xc (Go.Conc.G q.fr q.l) q.v->PhB P Fp Fc Gp Gc f n c cap K L (zM ts ty cn c) (under P) l0 w0 Gb p q gs w t m rcvd bp bc buf->Reach P Fin gs w sl t):Reach P Fin gs w sl t:=by
 have hXp1:∀g v,Xp g v->g.callers≠[]:=fun g v k=>by obtain⟨fr,rfl,_⟩:=hXp g v k;simp[Go.Conc.G]
 have hXp2:∀g w (b:Array Value) n r,Xp g w->w.heap[c]? =some (.chan K b false n r false)->b.toList=L:=fun g w b n r k=>by obtain⟨fr,_,_,_,_,k2⟩:=hXp g w k;exact k2 b n r
 have hXc1:∀g v,Xc g v->g.callers≠[]:=fun g v k=>by obtain⟨fr,z,ok,rfl,_⟩:=hXc g v k;simp[Go.Conc.G]
 have hrunning:∃(i:Nat) (g:Goroutine),gs[i]? =some g/\g.status= .running:=by
  rcases h.ps with⟨y,j,e,hy,_⟩|⟨x,z,a',e,_,_,hx,hsz,_⟩
  ·exact⟨n,_,e,hy.status rfl⟩
  ·rcases h.cst with⟨e,_⟩|⟨y,z,ok,b',_,_,_,_,hbn,_⟩|⟨z,ok,_,_,hrl,_⟩
   ·exact⟨0,_,e,rfl⟩
   ·exfalso;have:=h.cap0
    rw[hbn] at hsz;simp at hsz;omega
   ·exfalso;have:=(List.getElem?_eq_some_iff.1 hx).1
    have:=h.core.le
    omega
 obtain⟨i,g,d,sl',hi,hg,hst⟩:=crowd_pick (P:=P) (w:=w) (sl:=sl) (awake_A h) hrunning
 have hd:PhA P Fp Fc Gp Gc f n c cap K L (zM ts ty cn c) (under P) l0 w0 Gb p q gs (w.at d) t m sent rcvd mp mc bp bc buf pb cb:=⟨h.core.at d,h.duo,h.n0,h.cap0,h.sentL,h.ps,h.cst,h.others,h.above⟩;by_cases hi0:i=0
 ·subst hi0;rcases h.cst with⟨e,hmc,hcb⟩|⟨y,z,ok,b',e,_⟩|⟨z,ok,e,_⟩
  ·obtain⟨a,b,hvc⟩:=h.core.vcc
   refine zfB hPc hL hXc hd e hmc hcb ?_ hin hst;rcases goes_or_end hPc h.core.lkc.st ⟨_,hvc,rfl⟩ hXc1 hMq with hgo|hend
   ·rcases hq with hq|hq
    ·exact .inl hq
    ·exact .inr ⟨hgo,fun T d=>let ⟨g',v',k1,k2,_,k4⟩:=hq T d;⟨g',v',k1,k2,k4⟩⟩
   ·exact .inl hend
  ·rw[e] at hi;cases hi;cases hg
  ·rw[e] at hi;cases hi;cases hg
 ·by_cases hin':i=n
  ·subst hin';rcases h.ps with⟨y,j,e,hy,hmp,hpb⟩|⟨x,z,a',e,_⟩
   ·cases j with
    |succ j=>
     rw[e] at hi;cases hi
     obtain⟨hyr,y',hs,hy'⟩:=hy
     have hn0:(i==0)=false:=by simp;omega
     have hrun:=runT_crowd_go (P:=P) (gs:=gs) (w:=w.at d) (sl:=sl') (i:=i) e (show stepG P (i==0) _ (w.at d)=_ by rw[hn0];exact hs _)
     rw[jj (wg hd hd.core.wc)] at hrun;have hlt:=lt_of_get e;have hno:MemOp.ofEvents i g.frame.fn g.frame.place #[]= #[]:=by rw[ofEvents_eq];simp
     rw[hno] at hrun;refine Reach.step (hst.trans hrun) (hin p q _ _ _ _ m sent rcvd mp mc bp bc buf (1+j) cb rfl rfl rfl rfl rfl rfl ⟨hd.core,?_,h.n0,h.cap0,h.sentL, .inl ⟨y',j,yW hlt,hy',hmp,rfl⟩,?_,fun k x hk hkn hx=>?_,fun k hk=>?_⟩ ?_)
     ·rw[Array.append_empty];exact hd.duo
     ·rw[yl h.n0];exact h.cst
     ·rw[yl (Ne.symm hkn)] at hx;rw[Array.append_empty];exact h.others k x hk hkn hx
     ·rw[Array.append_empty];exact h.above k (by simpa using hk)
     ·rw[Array.size_setIfInBounds];omega
    |zero=>
    have hy:y=Go.Conc.G p.fr' p.l':=hy;subst hy;rcases goes_or_end hPp h.core.lkp.st ⟨_,h.core.vpc,rfl⟩ hXp1 hMp with hgo|hend
    ·rcases hp with hp|hp
     ·exact roundA_close hXp hXv hd e hmp hMq hp hB hst
     ·exact roundA_p hPp hL rfl hXp1 hXp2 hd e hmp hpb hMq hgo hp hst
    ·exact roundA_close hXp hXv hd e hmp hMq hend hB hst
   ·rw[e] at hi;cases hi;cases hg
  ·obtain⟨g',kk,ops,hmk,hrun,u1,u2,u3⟩:=ke (P:=P) (w:=w.at d) (sl:=sl') hi hg hi0 (hd.others i g hi0 hin' hi) (wg hd hd.core.wc)
   have hlt:=lt_of_get hi;refine Reach.step (hst.trans hrun) (hin p q _ _ _ _ (upd m i kk) sent rcvd mp mc bp bc buf pb cb rfl rfl rfl rfl rfl rfl ⟨hd.core,hd.duo.mute hi0 hin' u1 u2,h.n0,h.cap0,h.sentL,?_,?_,fun j x hj hjn hx=>?_,xq hlt hd.above u1⟩ ?_)
   ·rw[yl hin'];exact h.ps
   ·rw[yl hi0];exact h.cst
   ·rcases set_get hx with⟨rfl,rfl⟩|⟨hji,hx⟩
    ·rw[upd_same];exact u3 t rfl
    ·rw[upd_ne m kk hji,Deaf_other t (g':=i) (Ne.symm hji) ops u1];exact hd.others j x hj hjn hx
   ·have e:sumTo gs.size (upd m i kk)+(kk+1)=sumTo gs.size m+kk:=by
     have:=sumTo_upd m kk id hlt
     simpa [hmk] using this
    rw[Array.size_setIfInBounds];omega
theorem phaseA_inner(hPp:SimP P Fp Gp (fun b=>b=true))(hPc:SimP P Fc Gc (fun b=>b=false))(hL:∀x∈L,PlainV x)(hXp:∀g v,Xp g v->jE P f c K L g v)(hXv:∀g v,Xp g v->∀y:Nat,Gb y->y≠c->∃o,v.heap[y]? =some o/\Pins o (w0.heap[y]?))(hXc:∀g v,Xc g v->jk P f c K g v)
 (hB:∀(p q:Nd) (gs:Array Goroutine) (w:World) (sl:Option (Nat×Nat)) (t:Trace) (m:Nat->Nat) (rcvd:Nat) (bp bc buf:Array Value),Must P Xc (Go.Conc.G q.fr q.l) q.v->PhB P Fp Fc Gp Gc f n c cap K L (zM ts ty cn c) (under P) l0 w0 Gb p q gs w t m rcvd bp bc buf->Reach P Fin gs w sl t)
 {gp:Goroutine} {vp:World} (hMp:Must P Xp gp vp) (hp:Alt P Xp (NextP P Fp Fc Gp Gc f n c cap K L (zM ts ty cn c) (under P) l0 w0 Gb Xc Fin) gp vp):
 ∀(gc:Goroutine) (vc:World),Must P Xc gc vc->∀(M:Nat) (p q:Nd) (gs:Array Goroutine) (w:World) (sl:Option (Nat×Nat)) (t:Trace) (m:Nat->Nat) (sent rcvd mp mc:Nat) (bp bc buf:Array Value) (pb cb:Nat),gp=Go.Conc.G p.fr p.l->vp=p.v->gc=Go.Conc.G q.fr q.l->vc=q.v->
  pb+cb+sumTo gs.size m<=M->PhA P Fp Fc Gp Gc f n c cap K L (zM ts ty cn c) (under P) l0 w0 Gb p q gs w t m sent rcvd mp mc bp bc buf pb cb->Reach P Fin gs w sl t:=by
 intro gc vc hMc;have main:∀(gc:Goroutine) (vc:World),Must P Xc gc vc->(∀p0:Nd,gp=Go.Conc.G p0.fr p0.l->vp=p0.v->Alt P Xc (zdm P Fp Fc Gp Gc f n c cap K L (zM ts ty cn c) (under P) l0 w0 Gb Fin p0) gc vc)->
  ∀(M:Nat) (p q:Nd) (gs:Array Goroutine) (w:World) (sl:Option (Nat×Nat)) (t:Trace) (m:Nat->Nat) (sent rcvd mp mc:Nat) (bp bc buf:Array Value) (pb cb:Nat),gp=Go.Conc.G p.fr p.l->vp=p.v->gc=Go.Conc.G q.fr q.l->vc=q.v->
   pb+cb+sumTo gs.size m<=M->PhA P Fp Fc Gp Gc f n c cap K L (zM ts ty cn c) (under P) l0 w0 Gb p q gs w t m sent rcvd mp mc bp bc buf pb cb->Reach P Fin gs w sl t:=by
  intro gc vc hMc hq M;induction M with
  |zero=>
   intro p q gs w sl t m sent rcvd mp mc bp bc buf pb cb e1 e2 e3 e4 hm h;have hq':=hq p e1 e2;subst e1;subst e2;subst e3;subst e4
   exact zdL hPp hPc hL hXp hXv hXc h hMp hMc hp hq' (fun p' q' gs' w' sl' t' m' s' r' mp' mc' bp' bc' buf' pb' cb' _ _ _ _ _ _ _ hlt=>absurd hlt (by omega)) hB
  |succ M ih=>
   intro p q gs w sl t m sent rcvd mp mc bp bc buf pb cb e1 e2 e3 e4 hm h;have hq':=hq p e1 e2;have ih':=ih;subst e3;subst e4
   have hMp':=hMp;have hp':=hp;rw[e1,e2] at hMp' hp';exact zdL hPp hPc hL hXp hXv hXc h hMp' hMc hp' hq' (fun p' q' gs' w' sl' t' m' s' r' mp' mc' bp' bc' buf' pb' cb' a1 a2 a3 b1 b2 b3 h' hlt=>
    ih p' q' gs' w' sl' t' m' s' r' mp' mc' bp' bc' buf' pb' cb' (by rw[e1,a1,a2]) (by rw[e2,a3]) (by rw[b1,b2]) b3.symm (by omega) h') hB
 induction hMc with
 | @stop g v h=>exact main g v (.stop h) fun _ _ _=> .inl h
 | @step g v hr ht g' v' h1 h2 h3 ih=>
   refine main g v (.step hr ht g' v' h1 h2 h3) fun p0 e1 e2=> .inr fun T d=>⟨g' T d,v' T d,h2 T d,h1 T d,h3 T d,?_⟩;intro p q gs w sl t m sent rcvd mp mc bp bc buf pb cb a1 a2 a3 b1 b2 h;exact ih T d _ p q gs w sl t m sent rcvd mp mc bp bc buf pb cb (by rw[e1,a1,a2]) (by rw[e2,a3]) b1 b2 (Nat.le_refl _) h
theorem phaseA(hPp:SimP P Fp Gp (fun b=>b=true))(hPc:SimP P Fc Gc (fun b=>b=false))(hL:∀x∈L,PlainV x)(hXp:∀g v,Xp g v->jE P f c K L g v)(hXv:∀g v,Xp g v->∀y:Nat,Gb y->y≠c->∃o,v.heap[y]? =some o/\Pins o (w0.heap[y]?))(hS:yG Xc)(hXc:∀g v,Xc g v->jk P f c K g v)
 (hFin:∀p q gs w sl t m bp bc buf ok z z' B,DoneP P Fp Fc Gp Gc f c cap K L (zM ts ty cn c) (under P) l0 w0 Gb Xc p q gs w t m bp bc buf ok z z' B->Fin gs w sl t):
 ∀(gp:Goroutine) (vp:World),Must P Xp gp vp->∀(gc:Goroutine) (vc:World),Must P Xc gc vc->∀(p q:Nd) (gs:Array Goroutine) (w:World) (sl:Option (Nat×Nat)) (t:Trace) (m:Nat->Nat) (sent rcvd mp mc:Nat) (bp bc buf:Array Value) (pb cb:Nat),gp=Go.Conc.G p.fr p.l->vp=p.v->gc=Go.Conc.G q.fr q.l->vc=q.v->
  PhA P Fp Fc Gp Gc f n c cap K L (zM ts ty cn c) (under P) l0 w0 Gb p q gs w t m sent rcvd mp mc bp bc buf pb cb->Reach P Fin gs w sl t:=by
 have hB:∀(p q:Nd) (gs:Array Goroutine) (w:World) (sl:Option (Nat×Nat)) (t:Trace) (m:Nat->Nat) (rcvd:Nat) (bp bc buf:Array Value),Must P Xc (Go.Conc.G q.fr q.l) q.v->PhB P Fp Fc Gp Gc f n c cap K L (zM ts ty cn c) (under P) l0 w0 Gb p q gs w t m rcvd bp bc buf->Reach P Fin gs w sl t:=
  fun p q gs w sl t m rcvd bp bc buf hM h=>ziF hPc hL hS hXc hFin _ _ hM _ p q gs w sl t m rcvd bp bc buf rfl rfl (Nat.le_refl _) h
 intro gp vp hMp;induction hMp with
 | @stop g v h=>
   intro gc vc hMc p q gs w sl t m sent rcvd mp mc bp bc buf pb cb e1 e2 e3 e4 hh;exact phaseA_inner hPp hPc hL hXp hXv hXc hB (.stop h) (.inl h) gc vc hMc _ p q gs w sl t m sent rcvd mp mc bp bc buf pb cb e1 e2 e3 e4 (Nat.le_refl _) hh
 | @step g v hr ht g' v' h1 h2 h3 ih=>
   intro gc vc hMc p q gs w sl t m sent rcvd mp mc bp bc buf pb cb e1 e2 e3 e4 hh;refine phaseA_inner hPp hPc hL hXp hXv hXc hB (.step hr ht g' v' h1 h2 h3) (.inr fun T d=>⟨g' T d,v' T d,h2 T d,h1 T d,h3 T d,?_⟩) gc vc hMc _ p q gs w sl t m sent rcvd mp mc bp bc buf pb cb e1 e2 e3 e4 (Nat.le_refl _) hh;intro p q gs w sl t m sent rcvd mp mc bp bc buf pb cb a1 a2 hMq h;exact ih T d _ _ hMq p q gs w sl t m sent rcvd mp mc bp bc buf pb cb a1 a2 rfl rfl h
end
open Go.Conc
open Go.ConcN (sumTo upd sumTo_upd upd_ne upd_same)
structure Alone (P:Program) (gs:Array Goroutine) (t:Trace) (m:Nat->Nat):Prop where
 others:∀(j:Nat) (x:Goroutine),j≠0->gs[j]? =some x->QuitsD P (m j) (Deaf t j) x
 above:∀j:Nat,gs.size<=j->Deaf t j=0
 past:∃B,Past (fun _=>False) B t
section
variable {P:Program} {S:Goroutine->World->Prop} {Fin:Array Goroutine->World->Option (Nat×Nat)->Trace->Prop} {gs:Array Goroutine} {w:World} {sl:Option (Nat×Nat)} {t:Trace} {m:Nat->Nat}
theorem zak{u:Trace}(h:∃B,Past (fun _=>False) B t)(hu:jP u):∃B,Past (fun _=>False) B (t++u):=by
 obtain⟨B,hB⟩:=h
 obtain⟨B',hB'⟩:=uq u
 refine⟨max B B',(hB.mono (Nat.le_max_left B B')).app0 hu.1 (fun _ _ _ _ k=>k.elim) (hu.2 t) fun op hop=>MemAct.low_mono (Nat.le_max_right B B') (hB' op hop)⟩
theorem zdP{u:Trace}{g:Nat}(h:∃B,Past (fun _=>False) B t)(hg:g≠0)(hu:∀op∈u,op.g=g)(hn:∀op∈u,op.act.touch? =none):∃B,Past (fun _=>False) B (t++u):=by
 obtain⟨B,hB⟩:=h
 obtain⟨B',hB'⟩:=uq u
 exact⟨max B B',(hB.mono (Nat.le_max_left B B')).appMute hg hu hn fun op hop=>MemAct.low_mono (Nat.le_max_right B B') (hB' op hop)⟩
theorem Alone.calm(h:Alone P gs t m){g:Goroutine}(h0:gs[0]? =some g)(hr:g.status= .running)(w:World):Calm w gs:=by
 intro j x hx;by_cases hj:j=0
 ·subst hj;rw[h0] at hx;cases hx
  exact again_running w (.inl hr)
 ·exact again_running w (h.others j x hj hx).status
theorem Alone.awake(h:Alone P gs t m){g:Goroutine}(h0:gs[0]? =some g)(hr:g.status= .running):∀x∈gs,awake x:=by
 intro x hx;obtain⟨j,hj,rfl⟩:=Array.mem_iff_getElem.1 hx
 have hx:=Array.getElem?_eq_getElem hj;generalize gs[j]=x at hx;by_cases hj0:j=0
 ·subst hj0;rw[h0] at hx;cases hx
  exact awake_of (.inl hr)
 ·exact awake_of ((h.others j x hj0 hx).status.elim .inl fun x=> .inr (.inr x))
theorem Alone.others'(h:Alone P gs t m):kv gs:=fun j x hj hx=>(h.others j x (by omega) hx).status
theorem Alone.leaver(h:Alone P gs t m){i:Nat}{g:Goroutine}(hi:gs[i]? =some g)(hr:g.status= .running)(h0:i≠0)(hc:Calm w gs):
 ∃g' ops m',runT P (crowd gs w sl) i=(.next (crowd (gs.setIfInBounds i g') w sl),ops)/\Alone P (gs.setIfInBounds i g') (t++ops) m'/\sumTo (gs.setIfInBounds i g').size m'<sumTo gs.size m:=by
 obtain⟨g',kk,ops,hmk,hrun,u1,u2,u3⟩:=ke (P:=P) (w:=w) (sl:=sl) hi hr h0 (h.others i g h0 hi) hc
 have hlt:=lt_of_get hi;refine⟨g',ops,upd m i kk,hrun,⟨fun j x hj hx=>?_,xq hlt h.above u1,zdP h.past h0 u1 u2⟩,?_⟩
 ·rcases set_get hx with⟨rfl,rfl⟩|⟨hji,hx⟩
  ·rw[upd_same];exact u3 t rfl
  ·rw[upd_ne m kk hji,Deaf_other t (g':=i) (Ne.symm hji) ops u1];exact h.others j x hj hx
 ·have e:sumTo gs.size (upd m i kk)+(kk+1)=sumTo gs.size m+kk:=by
   have:=sumTo_upd m kk id hlt
   simpa [hmk] using this
  rw[Array.size_setIfInBounds];omega
theorem zfT(hP:TameProg P)(hFin:∀gs w sl t m g v,S g v->re v w.tape w.drawn=w->gs[0]? =some g->Alone P gs t m->Fin gs w sl t):
 ∀(g:Goroutine) (v:World),Must P S g v->∀(M:Nat) (gs:Array Goroutine) (w:World) (sl:Option (Nat×Nat)) (t:Trace) (m:Nat->Nat),re v w.tape w.drawn=w->gs[0]? =some g->sumTo gs.size m<=M->Alone P gs t m->Reach P Fin gs w sl t:=by
 intro g v hM;induction hM with
 | @stop g v h=>
   intro M gs w sl t m hw h0 hm hA;exact Reach.here (hFin gs w sl t m g _ (h w.tape w.drawn) hw h0 hA)
 | @step g v hr ht g' v' h1 h2 h3 ih=>
   intro M;induction M with
   |zero=>
    intro gs w sl t m hw h0 hm hA;obtain⟨i,x,d,sl',hi,hx,hst⟩:=crowd_pick (P:=P) (w:=w) (sl:=sl) (hA.awake h0 hr) ⟨0,_,h0,hr⟩
    by_cases hi0:i=0
    ·subst hi0;rw[h0] at hi;cases hi
     have hs:=h2 (w.at d).tape (w.at d).drawn;have hwd:re v (w.at d).tape (w.at d).drawn=w.at d:=by rw[<-hw];rfl
     rw[hwd] at hs;rcases own_step hP ht hr (w.at d) with⟨o,w1,e⟩|⟨mm,e,hmm⟩|⟨g1,w1,e,hf⟩|⟨g1,w1,k,⟨hg,ha⟩,_,_,e,_,hcr⟩
     ·rw[e] at hs;cases hs
     ·rw[e] at hs;cases hs;simp[solo] at hmm
     ·rw[e] at hs;simp only[Stepped.next.injEq] at hs;obtain⟨rfl,rfl⟩:=ye hs
      have:=h1 (w.at d).tape (w.at d).drawn
      rw[hf] at this;cases this
     ·rw[e] at hs;simp only[Stepped.next.injEq] at hs;obtain⟨rfl,rfl⟩:=ye hs
      obtain⟨ops,hrun,hown⟩:=hcr gs sl' h0 hA.others'
      exact Reach.step (hst.trans hrun) (ih _ _ _ _ _ _ _ m rfl (yW (lt_of_get h0)) (Nat.le_refl _) ⟨qB hA.others hown.1,xq (lt_of_get h0) hA.above hown.1,zak hA.past hown⟩)
    ·obtain⟨g1,ops,m',hrun,hA',hlt⟩:=hA.leaver (w:=w.at d) (sl:=sl') hi hx hi0 (hA.calm h0 hr _)
     omega
   |succ M ihM=>
    intro gs w sl t m hw h0 hm hA;obtain⟨i,x,d,sl',hi,hx,hst⟩:=crowd_pick (P:=P) (w:=w) (sl:=sl) (hA.awake h0 hr) ⟨0,_,h0,hr⟩
    have hwd:re v (w.at d).tape (w.at d).drawn=w.at d:=by rw[<-hw];rfl
    by_cases hi0:i=0
    ·subst hi0;rw[h0] at hi;cases hi
     have hs:=h2 (w.at d).tape (w.at d).drawn;rw[hwd] at hs;rcases own_step hP ht hr (w.at d) with⟨o,w1,e⟩|⟨mm,e,hmm⟩|⟨g1,w1,e,hf⟩|⟨g1,w1,k,⟨hg,ha⟩,_,_,e,_,hcr⟩
     ·rw[e] at hs;cases hs
     ·rw[e] at hs;cases hs;simp[solo] at hmm
     ·rw[e] at hs;simp only[Stepped.next.injEq] at hs;obtain⟨rfl,rfl⟩:=ye hs
      have:=h1 (w.at d).tape (w.at d).drawn
      rw[hf] at this;cases this
     ·rw[e] at hs;simp only[Stepped.next.injEq] at hs;obtain⟨rfl,rfl⟩:=ye hs
      obtain⟨ops,hrun,hown⟩:=hcr gs sl' h0 hA.others'
      exact Reach.step (hst.trans hrun) (ih _ _ _ _ _ _ _ m rfl (yW (lt_of_get h0)) (Nat.le_refl _) ⟨qB hA.others hown.1,xq (lt_of_get h0) hA.above hown.1,zak hA.past hown⟩)
    ·obtain⟨g1,ops,m',hrun,hA',hlt⟩:=hA.leaver (w:=w.at d) (sl:=sl') hi hx hi0 (hA.calm h0 hr _)
     exact Reach.step (hst.trans hrun) (ihM _ _ _ _ m' hwd (by rw[yl hi0];exact h0) (by omega) hA')
end
open Go.Conc
section
variable {P:Program} {b:Frame} {a:Act} {k:List Item} {cs:List Frame} {w w':World} {ops:Array Oper} {i:Nat} {rest:List Nat} {o:Oper}
theorem x6{v:Value}(ho:ops[i]? =some o)(hw:Region.wanted o (yielded ops a.tmps)=true)(hr:(execOp a.eval o).run P w= .ok (.value v) w'):
 step P (lone (b.at a (.inRegion ops (i::rest)::k)) cs w)= .next (lone (b.at (a.put o.dst v) (.inRegion ops rest::k)) cs w'):=by
 have hfin:(b.at a (.inRegion ops (i::rest)::k)).finish v=b.at (a.put o.dst v) (.inRegion ops rest::k):=by rw[Frame.finish_at,ho];rfl
 refine step_lone_go ?_;show(stepG P true (Go.Conc.G (b.at a (.inRegion ops (i::rest)::k)) cs) w).bare=_
 rw[stepG_oper ho hw,<-hfin];simp[stepG.apply,hr,Go.Conc.G,Frame.at,GStep.after]
theorem zcM{ch x:Operand}{c K s r:Nat}{buf:Array Value}{v:Value}(ho:ops[i]? =some o)(hw:Region.wanted o (yielded ops a.tmps)=true)(hop:o.op= .send ch x)(hch:a.eval ch= .chan (some c))(hx:a.eval x=v)
 (hc:w.heap[c]? =some (.chan K buf false s r false)) (hroom:buf.size<K):
 step P (lone (b.at a (.inRegion ops (i::rest)::k)) cs w)= .next (lone (b.at (a.put o.dst undef) (.inRegion ops rest::k)) cs (w.setChan c K (buf.push v) false (s+1) r false)):=by
 have hfin:(b.at a (.inRegion ops (i::rest)::k)).finish undef=b.at (a.put o.dst undef) (.inRegion ops rest::k):=by rw[Frame.finish_at,ho];rfl
 have hr:(execOp a.eval o).run P w= .ok (.comm #[scase c v (.tuple #[])] true .send) w:=by
  unfold execOp;rw[hop];simp only[hch,hx];rfl
 have hcomm:∃es,stepG P true (Go.Conc.G (b.at a (.inRegion ops (i::rest)::k)) cs) w= .comm (Go.Conc.G (b.at a (.inRegion ops (i::rest)::k)) cs) #[scase c v (.tuple #[])] true .send w es:=by
  rw[stepG_oper ho hw];simp[stepG.apply,hr,Go.Conc.G,Frame.at,GStep.after]
 obtain⟨es,hcomm⟩:=hcomm
 have:=step_lone_send_room hcomm hc hroom
 rw[hfin] at this;exact this
theorem wE{id:Nat}{o0 o1 o2:Oper}{Q:Exit->Act->World->Prop}{v0 v1 v:Value}{ch x:Operand}{c K s r:Nat}{buf:Array Value}(g0:o0.guard=none)(g1:o1.guard=none)(g2:o2.guard=none)
 (h0:(execOp a.eval o0).run P w= .ok (.value v0) w) (h1:(execOp (a.put o0.dst v0).eval o1).run P w= .ok (.value v1) w) (hop:o2.op= .send ch x)
 (hch:((a.put o0.dst v0).put o1.dst v1).eval ch= .chan (some c)) (hx:((a.put o0.dst v0).put o1.dst v1).eval x=v) (hc:w.heap[c]? =some (.chan K buf false s r false)) (hroom:buf.size<K)
 (hQ:Q .normal (((a.put o0.dst v0).put o1.dst v1).put o2.dst undef) (w.setChan c K (buf.push v) false (s+1) r false)):(Code.region id #[o0,o1,o2] false).wp P Q a w:=by
 intro b k cs;refine⟨.normal,_,_,hQ,?_⟩;have want:∀(o:Oper) (y:Nat->Option Bool),o.guard=none->Region.wanted o y=true:=fun o y h=>by unfold Region.wanted;rw[h]
 refine Steps.head (step_region (P:=P)) ?_;refine Steps.head (x6 (i:=0) (rest:=[1,2]) (o:=o0) rfl (want _ _ g0) h0) ?_;refine Steps.head (x6 (i:=1) (rest:=[2]) (o:=o1) rfl (want _ _ g1) h1) ?_;refine Steps.head (zcM (i:=2) (rest:=[]) (o:=o2) rfl (want _ _ g2) hop hch hx hc hroom) ?_;exact Steps.one step_region_end
end
end Go.Bsd
