/- A part. -/
import Derived.Test.YtonmcakdofbjiaaGreatDoorZ21
import Derived.Deep.Cut
import Derived.StillTailTactics
import Derived.Deep.LoopGhost
set_option linter.all false
set_option maxRecDepth 100000
set_option maxHeartbeats 8000000
namespace Go.Proofs.YtonmcakdofbjiaaGreatDoor
open Go.RowKit
theorem isP_good{C:Ctx}{i:Nat}{s:ByteArray}:isP C i (-1) s=comesB C.l i s:=by unfold isP;simp
theorem uf{C:Ctx}{i:Nat}{b:Int}{s:ByteArray}(h:0<=b):isP C i b s=false:=by unfold isP;rw[decide_eq_false (by omega)];rfl
theorem xj(n:Nd)(x:Value×List Nd):(nodeL n [x]).length=x.2.length+1:=by simp[nodeL,xg,xf]
theorem qu{n:Nd}{v:Value}{ts:List Tr}{k:Int}{name:ByteArray}{num op a:Int}(hn:n.kind=k/\n.name=name/\n.num=num/\n.op=op/\n.at_=a):nodeL n [(v,flatTs ts 1)]=flatTs [zv k name num op a ts] 1:=
 ki hn (by simp[xg,yC])
theorem zaS{C:Ctx}{i j:Nat}{b':Int}{l:List Nd}{op:Int}{v:Value}(hop:(op=1/\comesB C.l i ⟨#[45]⟩=true)\/(op=2/\comesB C.l i ⟨#[45]⟩=false/\comesB C.l i ⟨#[33]⟩=true))(h:PN C .unary (i+1) (-1) l j b'):PN C .unary i (-1) (nodeL ⟨0,14,zD,0,op,placeOf C.l C.e i⟩ [(v,l)]) j b':=by
 obtain⟨h1,h2,h3,h4,_,h6⟩:=h
 refine⟨by omega,by rw[xj];simp only;omega,jW _ _ (fun x hx=>by rw[List.mem_singleton.1 hx];exact h3),h4,fun h=>by omega,fun _ f r hr=>?_⟩
 cases f with
 |zero=>unfold rd at hr;cases hr
 |succ f=>
  have key:∀r1,rd C f .unary (i+1)=some r1->r=(match r1 with| .ok ts j=> .ok [zv 14 zD 0 op (placeOf C.l C.e i) ts] j| .no p=> .no p)->Ans r (nodeL ⟨0,14,zD,0,op,placeOf C.l C.e i⟩ [(v,l)]) j b':=by
   intro r1 hr1 e
   have h7:=h6 rfl f r1 hr1
   cases r1 with
   |ok ts j1=>
    obtain⟨e1,e2,e3⟩:=h7
    subst e
    refine⟨e1,e2,?_⟩
    rw[e3]
    exact qu ⟨rfl,rfl,rfl,rfl,rfl⟩
   |no p=>subst e;exact h7
  unfold rd at hr
  rcases hop with⟨rfl,hc⟩|⟨rfl,hc,hc2⟩
  ·rw[if_pos hc] at hr
   cases h8:rd C f .unary (i+1) with
   |none=>rw[h8] at hr;cases hr
   |some r1=>
    rw[h8] at hr
    refine key r1 h8 ?_
    cases r1<;>exact(Option.some.inj hr).symm
  ·rw[if_neg (by simp[hc]),if_pos hc2] at hr
   cases h8:rd C f .unary (i+1) with
   |none=>rw[h8] at hr;cases hr
   |some r1=>
    rw[h8] at hr
    refine key r1 h8 ?_
    cases r1<;>exact(Option.some.inj hr).symm
theorem pn_atom{C:Ctx}{i j:Nat}{b b':Int}{l:List Nd}(hc:b= -1->comesB C.l i ⟨#[45]⟩=false/\comesB C.l i ⟨#[33]⟩=false)(h:PN C .atom i b l j b'):PN C .unary i b l j b':=by
 obtain⟨h1,h2,h3,h4,h5,h6⟩:=h
 refine⟨h1,h2,h3,h4,h5,fun hb f r hr=>?_⟩
 cases f with
 |zero=>unfold rd at hr;cases hr
 |succ f=>
  unfold rd at hr
  obtain⟨c1,c2⟩:=hc hb
  rw[if_neg (by simp[c1]),if_neg (by simp[c2])] at hr
  exact h6 hb f r hr
theorem zc0{C:Ctx}{N:Nat}(IH:PAll C N)(i:Nat)(b:Int)(w:World)(h:RP C i b w)(hv:Vb b)(hm:remP C i b*20+2<=N):Calls Tryz.prog 131 #[.pointer (some ⟨C.r,0,none⟩)] w (yH C w (PN C .unary i b)):=by
 have hS:=PSt.start h hv
 have hrl:=h.lt
 have hlen:=h.len
 obtain⟨q1,qf,q3⟩:=h.at1
 generalize hQ:yH C w (PN C .unary i b)=Q
 have HQ:Hid (∀v l j b' w',w'.ownsRow w.heap.size 50 6 v l.length (ndCells l)->RP C j b' w'->Gr C.r w w'->PN C .unary i b l j b'->Q (.returned v) w'):=Lib.hid (fun v l j b' w' h1 h2 h3 h4=>by rw[<-hQ];exact⟨v,l,j,b',rfl,h1,h2,h3,h4⟩)
 clear hQ h
 have HIH:=Lib.hid IH
 clear IH
 by_cases hi:isP C i b ⟨#[45]⟩=true
 ·obtain⟨hlt,hb0⟩:=isP_lt hi
  obtain rfl:b= -1:=by rcases hv with h|h<;>omega
  rw[isP_good] at hi
  rw[remP_good (by omega)] at hm
  have HC:=Lib.hid hi
  have hI:Hid (isP C i (-1) ⟨#[45]⟩=true):=Lib.hid (by rw[isP_good];exact hi)
  clear hi
  go_enter Tryz.func131,Tryz.ntmps131
  go_upto_region 4 with(first|(go_at_call 88;with_reducible refine(zq C i _ _ hS.rp).mono ?_;rintro e w1 ⟨rfl,K⟩;replace hS:=hS.kin K;clear q1 qf q3;obtain⟨q1,qf,q3⟩:=hS.rp.at1;clear K)|(go_at_call 46;with_reducible refine(za C i _ _ _ hS.rp).mono ?_;rintro e w2 ⟨rfl,K⟩;replace hS:=hS.kin K;clear q1 qf q3;obtain⟨q1,qf,q3⟩:=hS.rp.at1;rw[hI.out];clear K))
  have hS2:=(hS.inc hlt (by rw[remP_good (by omega)];omega)).less (R':=C.l.length-(i+1)+1) (by rw[remP_good (by omega)];exact Nat.le_refl _)
  generalize World.setCell _ ⟨C.r,1,none⟩ (.int .i64 (↑i+1))=w3 at hS2⊢
  clear hS q1 qf q3
  have hms:=hS2.rem
  go_wp2_with (first|(go_at_call 131;with_reducible refine(HIH.out.unary (i+1) (-1) _ hS2.rp hS2.vb (by omega)).mono ?_;rintro e w4 ⟨v1,l1,j,b',rfl,ho,hR,hG,hP⟩;obtain⟨bo1,m1,c1,rfl⟩:=zQ ho;have hl1:=lst_of ho hS2.gr.size hP hR;have hS3:=hS2.sub hR hG hP)|(go_at_call 91;with_reducible refine(node1 ⟨0,14,⟨#[]⟩,0,1,placeOf C.l C.e i⟩ w.heap.size _ hS3.gr.size (_,l1) hl1).mono ?_;rintro e w5 ⟨v,rfl,ho2,K2⟩))
  have hS4:=hS3.kin K2
  exact HQ.out _ _ _ _ _ ho2 hS4.rp hS4.gr (zaS (.inl ⟨rfl,HC.out⟩) hP)
 ·have hi':isP C i b ⟨#[45]⟩=false:=by simpa using hi
  clear hi
  have hI:Hid (isP C i b ⟨#[45]⟩=false):=Lib.hid hi'
  by_cases hj:isP C i b ⟨#[33]⟩=true
  ·obtain⟨hlt,hb0⟩:=isP_lt hj
   obtain rfl:b= -1:=by rcases hv with h|h<;>omega
   have hJ:Hid (isP C i (-1) ⟨#[33]⟩=true):=Lib.hid hj
   rw[isP_good] at hj hi'
   rw[remP_good (by omega)] at hm
   have HC:=Lib.hid hj
   have HC2:=Lib.hid hi'
   clear hj hi'
   go_enter Tryz.func131,Tryz.ntmps131
   go_upto_region 7 with(first|(go_at_call 88;with_reducible refine(zq C i _ _ hS.rp).mono ?_;rintro e w1 ⟨rfl,K⟩;replace hS:=hS.kin K;clear q1 qf q3;obtain⟨q1,qf,q3⟩:=hS.rp.at1;clear K)|(go_at_call 46;with_reducible refine(za C i _ ⟨#[45]⟩ _ hS.rp).mono ?_;rintro e w2 ⟨rfl,K⟩;replace hS:=hS.kin K;clear q1 qf q3;obtain⟨q1,qf,q3⟩:=hS.rp.at1;rw[hI.out];clear K)|(go_at_call 46;with_reducible refine(za C i _ ⟨#[33]⟩ _ hS.rp).mono ?_;rintro e w2 ⟨rfl,K⟩;replace hS:=hS.kin K;clear q1 qf q3;obtain⟨q1,qf,q3⟩:=hS.rp.at1;rw[hJ.out];clear K))
   have hS2:=(hS.inc hlt (by rw[remP_good (by omega)];omega)).less (R':=C.l.length-(i+1)+1) (by rw[remP_good (by omega)];exact Nat.le_refl _)
   generalize World.setCell _ ⟨C.r,1,none⟩ (.int .i64 (↑i+1))=w3 at hS2⊢
   clear hS q1 qf q3
   have hms:=hS2.rem
   go_wp2_with (first|(go_at_call 131;with_reducible refine(HIH.out.unary (i+1) (-1) _ hS2.rp hS2.vb (by omega)).mono ?_;rintro e w4 ⟨v1,l1,j,b',rfl,ho,hR,hG,hP⟩;obtain⟨bo1,m1,c1,rfl⟩:=zQ ho;have hl1:=lst_of ho hS2.gr.size hP hR;have hS3:=hS2.sub hR hG hP)|(go_at_call 91;with_reducible refine(node1 ⟨0,14,⟨#[]⟩,0,2,placeOf C.l C.e i⟩ w.heap.size _ hS3.gr.size (_,l1) hl1).mono ?_;rintro e w5 ⟨v,rfl,ho2,K2⟩))
   have hS4:=hS3.kin K2
   exact HQ.out _ _ _ _ _ ho2 hS4.rp hS4.gr (zaS (.inr ⟨rfl,HC2.out,HC.out⟩) hP)
  ·have hj':isP C i b ⟨#[33]⟩=false:=by simpa using hj
   clear hj
   have hJ:Hid (isP C i b ⟨#[33]⟩=false):=Lib.hid hj'
   have HC:Hid (b= -1->comesB C.l i ⟨#[45]⟩=false/\comesB C.l i ⟨#[33]⟩=false):=Lib.hid (fun e=>by subst e;rw[isP_good] at hj' hi';exact⟨hi',hj'⟩)
   clear hi' hj'
   go_enter Tryz.func131,Tryz.ntmps131
   go_wp2_with (first|(go_at_call 88;with_reducible refine(zq C i _ _ hS.rp).mono ?_;rintro e w1 ⟨rfl,K⟩;replace hS:=hS.kin K;clear q1 qf q3;obtain⟨q1,qf,q3⟩:=hS.rp.at1;clear K)|(go_at_call 46;with_reducible refine(za C i _ ⟨#[45]⟩ _ hS.rp).mono ?_;rintro e w2 ⟨rfl,K⟩;replace hS:=hS.kin K;clear q1 qf q3;obtain⟨q1,qf,q3⟩:=hS.rp.at1;rw[hI.out];clear K)|(go_at_call 46;with_reducible refine(za C i _ ⟨#[33]⟩ _ hS.rp).mono ?_;rintro e w2 ⟨rfl,K⟩;replace hS:=hS.kin K;clear q1 qf q3;obtain⟨q1,qf,q3⟩:=hS.rp.at1;rw[hJ.out];clear K)|(go_at_call 159;with_reducible refine(HIH.out.atom i b _ hS.rp hv (by omega)).mono ?_;rintro e w4 ⟨v1,l1,j,b',rfl,ho,hR,hG,hP⟩;have hS3:=hS.sub hR hG (pn_atom HC.out hP)))
   exact HQ.out _ _ _ _ _ (ho.mono hS.gr.size) hS3.rp hS3.gr (pn_atom HC.out hP)
theorem yX{C:Ctx}{i:Nat}:namedP C i (-1)=namedB C.l i:=by unfold namedP;simp
theorem zdI{C:Ctx}{i:Nat}{b:Int}(h:0<=b):namedP C i b=false:=by unfold namedP;rw[decide_eq_false (by omega)];rfl
theorem uW{C:Ctx}{i:Nat}{b:Int}(h:0<=b):bad1 C i b=b:=by unfold bad1;rw[if_neg (by omega)]
theorem xn{C:Ctx}{i:Nat}:bad1 C i (-1)=placeOf C.l C.e i:=by unfold bad1;rw[if_pos (by omega)]
theorem ye{C:Ctx}{i:Nat}{b:Int}{s:ByteArray}:i<=zi C i b s:=by unfold zi;split<;>omega
theorem kX{C:Ctx}{i:Nat}{b:Int}:i<=nameJ C i b:=by unfold nameJ;split<;>omega
theorem zs{C:Ctx}{i:Nat}{b:Int}{s:ByteArray}(h:0<=b):zi C i b s=i/\zn C i b s=b:=by
 unfold zi zn
 rw[uf h,if_neg (by simp),if_neg (by simp)]
 exact⟨rfl,uW h⟩
theorem uV{C:Ctx}{i:Nat}{b:Int}(hpl:∀k,0<=placeOf C.l C.e k):Vb (bad1 C i b):=by
 unfold bad1
 split
 ·exact .inr (hpl i)
 ·exact .inr (by omega)
theorem take_vb{C:Ctx}{i:Nat}{b:Int}{s:ByteArray}(hpl:∀k,0<=placeOf C.l C.e k)(h:Vb b):Vb (zn C i b s):=by
 unfold zn
 split
 ·exact h
 ·exact uV hpl
theorem gA{C:Ctx}{i:Nat}{b:Int}(hpl:∀k,0<=placeOf C.l C.e k)(h:Vb b):Vb (zE C i b):=by
 unfold zE
 split
 ·exact h
 ·exact uV hpl
theorem qF{C:Ctx}{i:Nat}(h:namedB C.l i=true):nameJ C i (-1)=i+1/\zE C i (-1)= -1/\zX C i (-1)=textAt C.l i:=by
 unfold nameJ zE zX
 rw[yX,h]
 exact⟨rfl,rfl,rfl⟩
theorem za3{C:Ctx}{i:Nat}(h:namedB C.l i=false):nameJ C i (-1)=i/\zE C i (-1)=placeOf C.l C.e i:=by
 unfold nameJ zE
 rw[yX,h]
 exact⟨rfl,xn⟩
def Fol{α:Type}(x:Option (Res α))(P:α->Prop)(j:Nat)(b:Int):Prop:=match x with
 |none=>True
 |some (.no p)=>b=p/\0<=p
 |some (.ok a k)=>j=k/\b= -1/\P a
theorem zC{α β:Type}{x:Option (Res α)}{F:α->Nat->Option (Res β)}{P:α->Prop}{Q:β->Prop}{j j2:Nat}{b b2:Int}(h:Fol x P j b)(hs:0<=b->b2=b)(hn:b= -1->∀a,P a->Fol (F a j) Q j2 b2):Fol (andThen x F) Q j2 b2:=by
 cases x with
 |none=>trivial
 |some r=>cases r with
  |no p=>
   obtain⟨h1,h2⟩:=h
   subst h1
   exact⟨hs h2,h2⟩
  |ok a k=>
   obtain⟨h1,h2,h3⟩:=h
   subst h1
   exact hn h2 a h3
theorem xe{α:Type}{a:α}{P:α->Prop}{j:Nat}(h:P a):Fol (some (.ok a j)) P j (-1):=⟨rfl,rfl,h⟩
theorem yJ{C:Ctx}{s:ByteArray}{i:Nat}(hpl:∀k,0<=placeOf C.l C.e k):Fol (wantR C s i) (fun _=>True) (zi C i (-1) s) (zn C i (-1) s):=by
 unfold wantR zi zn
 rw[isP_good]
 cases comesB C.l i s with
 |true=>exact⟨rfl,rfl,trivial⟩
 |false=>exact⟨xn,hpl i⟩
theorem zhc{C:Ctx}{i:Nat}(hpl:∀k,0<=placeOf C.l C.e k):Fol (z7 C i) (fun s=>s=zX C i (-1)) (nameJ C i (-1)) (zE C i (-1)):=by
 unfold z7 nameJ zE zX
 rw[yX]
 cases namedB C.l i with
 |true=>exact⟨rfl,rfl,rfl⟩
 |false=>exact⟨xn,hpl i⟩
theorem gC{r:Res (List Tr)}{l:List Nd}{j:Nat}{b:Int}(h:Fol (some r) (fun ts=>l=flatTs ts 1) j b):Ans r l j b:=by
 cases r with
 |ok ts k=>exact h
 |no p=>exact h
theorem PN.fol{C:Ctx}{nt:NT}{i j:Nat}{b':Int}{l:List Nd}(h:PN C nt i (-1) l j b')(f:Nat):Fol (rd C f nt i) (fun ts=>l=flatTs ts 1) j b':=by
 cases hr:rd C f nt i with
 |none=>trivial
 |some r=>
  have:=h.2.2.2.2.2 rfl f r hr
  cases r with
  |ok ts k=>exact this
  |no p=>exact this
theorem pn_of{C:Ctx}{nt:NT}{i j:Nat}{b':Int}{l:List Nd}(h1:i<=j)(h2:l.length<=j-i+bzN nt)(h3:NtOk l)(h4:Vb b')(h:∀f,Fol (rd C (f+1) nt i) (fun ts=>l=flatTs ts 1) j b'):PN C nt i (-1) l j b':=by
 refine⟨h1,h2,h3,h4,fun h=>by omega,fun _ f r hr=>?_⟩
 cases f with
 |zero=>unfold rd at hr;cases hr
 |succ f=>have:=h f;rw[hr] at this;exact gC this
theorem zeT{C:Ctx}{nt:NT}{i:Nat}{b:Int}{l:List Nd}(h:0<=b)(h2:l.length<=bzN nt)(h3:NtOk l):PN C nt i b l i b:=
 ⟨Nat.le_refl _,by omega,h3, .inr h,fun _=>⟨rfl,rfl⟩,fun e=>by omega⟩
theorem nodeL0_length(n:Nd):(nodeL n []).length=1:=rfl
theorem yW{n:Nd}{k:Int}{name:ByteArray}{num op a:Int}(hn:n.kind=k/\n.name=name/\n.num=num/\n.op=op/\n.at_=a):nodeL n []=flatTs [zv k name num op a []] 1:=
 ki hn rfl
theorem nodeL0_ok(n:Nd):NtOk (nodeL n []):=jW n [] (fun x hx=>by cases hx)
theorem nodeL1_ok(n:Nd)(v:Value)(l:List Nd)(h:NtOk l):NtOk (nodeL n [(v,l)]):=jW _ _ (fun x hx=>by rw[List.mem_singleton.1 hx];exact h)
theorem zij{C:Ctx}{i:Nat}(h:comesB C.l i ⟨#[116,114,117,101]⟩=true):PN C .atom i (-1) (nodeL ⟨0,11,zD,1,0,placeOf C.l C.e i⟩ []) (i+1) (-1):=
 pn_of (by omega) (by rw[nodeL0_length];omega) (nodeL0_ok _) (.inl rfl) fun f=>by
  unfold rd
  rw[if_pos h]
  exact xe (yW ⟨rfl,rfl,rfl,rfl,rfl⟩)
theorem zgK{C:Ctx}{i:Nat}(h1:comesB C.l i ⟨#[116,114,117,101]⟩=false)(h:comesB C.l i ⟨#[102,97,108,115,101]⟩=true):PN C .atom i (-1) (nodeL ⟨0,11,zD,0,0,placeOf C.l C.e i⟩ []) (i+1) (-1):=
 pn_of (by omega) (by rw[nodeL0_length];omega) (nodeL0_ok _) (.inl rfl) fun f=>by
  unfold rd
  rw[if_neg (by simp[h1]),if_pos h]
  exact xe (yW ⟨rfl,rfl,rfl,rfl,rfl⟩)
theorem zgJ{C:Ctx}{i j:Nat}{b':Int}{l:List Nd}(h1:comesB C.l i ⟨#[116,114,117,101]⟩=false/\comesB C.l i ⟨#[102,97,108,115,101]⟩=false)(h:comesB C.l i ⟨#[40]⟩=true)(hpl:∀k,0<=placeOf C.l C.e k)(hp:PN C (.row 0) (i+1) (-1) l j b'):PN C .atom i (-1) l (zi C j b' ⟨#[41]⟩) (zn C j b' ⟨#[41]⟩):=by
 have g1:=hp.1
 have g2:=hp.2.1
 have g3:j<=zi C j b' ⟨#[41]⟩:=ye
 refine pn_of (by omega) (by simp only[bzN] at g2⊢;omega) hp.2.2.1 (take_vb hpl hp.2.2.2.1) fun f=>?_
 unfold rd
 rw[if_neg (by simp[h1.1]),if_neg (by simp[h1.2]),if_pos h]
 refine zC (hp.fol f) (fun hb=>(zs hb).2) fun hb ts hl=>?_
 subst hb
 refine zC (yJ hpl) (fun _=>rfl) fun hb2 _ _=>?_
 rw[hb2]
 exact xe hl
theorem gX{C:Ctx}{i:Nat}(h1:comesB C.l i ⟨#[116,114,117,101]⟩=false/\comesB C.l i ⟨#[102,97,108,115,101]⟩=false)(h3:comesB C.l i ⟨#[40]⟩=false)(h4:namedB C.l i=false)(h5:numbB C.l i=false)(hpl:0<=placeOf C.l C.e i):PN C .atom i (-1) [] i (bad1 C i (-1)):=
 pn_of (by omega) (by simp) .nil (by rw[xn];exact .inr hpl) fun f=>by
  unfold rd
  rw[if_neg (by simp[h1.1]),if_neg (by simp[h1.2]),if_neg (by simp[h3]),if_neg (by simp[h4])]
  unfold zL
  rw[if_neg (by simp[h5])]
  exact⟨xn,hpl⟩
theorem zeS{C:Ctx}{i:Nat}(h:numbB C.l i=true):PN C .atom i (-1) (nodeL ⟨0,10,zD,numAtT C.l i,0,placeOf C.l C.e i⟩ []) (i+1) (-1):=by
 have hc:∀s,comesB C.l i s=false:=by
  intro s
  unfold numbB at h
  unfold comesB
  split at h
  ·rename_i t ht
   rw[ht]
   simp only[decide_eq_true_eq] at h
   simp[h]
  ·cases h
 have hn:namedB C.l i=false:=by
  unfold numbB at h
  unfold namedB
  split at h
  ·rename_i t ht
   rw[ht]
   simp only[decide_eq_true_eq] at h
   simp[h]
  ·cases h
 exact pn_of (by omega) (by rw[nodeL0_length];omega) (nodeL0_ok _) (.inl rfl) fun f=>by
  unfold rd
  rw[if_neg (by simp[hc]),if_neg (by simp[hc]),if_neg (by simp[hc]),if_neg (by simp[hn])]
  unfold zL
  rw[if_pos h]
  exact xe (yW ⟨rfl,rfl,rfl,rfl,rfl⟩)
theorem zil{C:Ctx}{i:Nat}(h1:comesB C.l i ⟨#[116,114,117,101]⟩=false/\comesB C.l i ⟨#[102,97,108,115,101]⟩=false)(h3:comesB C.l i ⟨#[40]⟩=false)(h4:namedB C.l i=true)(h5:comesB C.l (i+1) ⟨#[91]⟩=false):PN C .atom i (-1) (nodeL ⟨0,12,textAt C.l i,0,0,placeOf C.l C.e i⟩ []) (i+1) (-1):=
 pn_of (by omega) (by rw[nodeL0_length];omega) (nodeL0_ok _) (.inl rfl) fun f=>by
  unfold rd
  rw[if_neg (by simp[h1.1]),if_neg (by simp[h1.2]),if_neg (by simp[h3]),if_pos h4,if_neg (by simp[h5])]
  exact xe (yW ⟨rfl,rfl,rfl,rfl,rfl⟩)
theorem zim{C:Ctx}{i j:Nat}{b':Int}{v:Value}{l:List Nd}(h1:comesB C.l i ⟨#[116,114,117,101]⟩=false/\comesB C.l i ⟨#[102,97,108,115,101]⟩=false)(h3:comesB C.l i ⟨#[40]⟩=false)(h4:namedB C.l i=true)(h5:comesB C.l (i+1) ⟨#[91]⟩=true)(hpl:∀k,0<=placeOf C.l C.e k)(hp:PN C (.row 0) (i+1+1) (-1) l j b'):PN C .atom i (-1) (nodeL ⟨0,13,textAt C.l i,0,0,placeOf C.l C.e i⟩ [(v,l)]) (zi C j b' ⟨#[93]⟩) (zn C j b' ⟨#[93]⟩):=by
 have g1:=hp.1
 have g2:=hp.2.1
 have g3:j<=zi C j b' ⟨#[93]⟩:=ye
 refine pn_of (by omega) (by rw[xj];simp only[bzN] at g2⊢;omega) (nodeL1_ok _ _ _ hp.2.2.1) (take_vb hpl hp.2.2.2.1) fun f=>?_
 unfold rd
 rw[if_neg (by simp[h1.1]),if_neg (by simp[h1.2]),if_neg (by simp[h3]),if_pos h4,if_pos h5]
 refine zC (hp.fol f) (fun hb=>(zs hb).2) fun hb ts hl=>?_
 subst hb
 refine zC (yJ hpl) (fun _=>rfl) fun hb2 _ _=>?_
 rw[hb2]
 subst hl
 exact xe (qu ⟨rfl,rfl,rfl,rfl,rfl⟩)
theorem zfj{n:Nat}(h:n<=8193):IntKind.i64.wrap (n:Int)=n:=by simp[IntKind.wrap,IntKind.bits,IntKind.signed];omega
theorem PAll.expr0{C:Ctx}{N:Nat}(H:PAll C N)(i:Nat)(b:Int)(w:World)(h:RP C i b w)(hv:Vb b)(hm:remP C i b*20+8<N):Calls Tryz.prog 93 #[.pointer (some ⟨C.r,0,none⟩), .int .i64 0] w (yH C w (PN C (.row 0) i b)):=
 H.expr 0 i b w (by omega) h hv hm
theorem PSt.inc2{C:Ctx}{w wk:World}{R i:Nat}{b:Int}(h:PSt C w R i b wk)(hlt:i<C.l.length):PSt C w (C.l.length-(i+1)+1) (i+1) b (wk.setCell ⟨C.r,1,none⟩ (.int .i64 (((i:Nat):Int)+1))):=by
 refine⟨?_,h.gr.setCell _ _,h.vb,?_⟩
 ·have:=h.rp.setAt (j:=i+1) hlt
  simpa using this
 ·unfold remP;split<;>omega
theorem PS.rem{C:Ctx}{i j:Nat}{b':Int}{l:List Nd}(h:PS C i l j b'):remP C j b'<=remP C i (-1):=by
 have:=h.1
 rw[remP_good (C:=C) (i:=i) (b:= -1) (by omega)]
 unfold remP
 split<;>omega
theorem PSt.subS{C:Ctx}{w wk w':World}{R i j:Nat}{b':Int}{l:List Nd}(h:PSt C w R i (-1) wk)(h1:RP C j b' w')(h2:Gr C.r wk w')(hp:PS C i l j b'):PSt C w R j b' w':=⟨h1,h.gr.trans h2,hp.2.2.2.1,Nat.le_trans hp.rem h.rem⟩
theorem RP.full{C:Ctx}{i:Nat}{b:Int}{w:World}(h:RP C i b w){t:Item}(ht:C.l[i]? =some t):∃cap,C.l.length<=cap/\w.cell? ⟨C.r,0,none⟩=some (.slice (some ⟨C.g,0,none⟩) C.l.length cap)/\w.cell? ⟨C.r,1,none⟩=some (.int .i64 i)/\w.frozen? ⟨C.r,1,none⟩=false/\w.cell? ⟨C.r,3,none⟩=some (.int .i64 b)/\w.cell? ⟨C.g,i*4,none⟩=some (.int .i64 t.kind)/\w.cell? ⟨C.g,i*4+2,none⟩=some (.int .i64 t.num)/\¬C.r=C.g:=by
 obtain⟨bo,cap,hb,hcap,h0,h1,_,h3,hf,_⟩:=h.cells
 have hne:C.l≠[]:=by rintro e;rw[e] at ht;simp at ht
 obtain rfl:=hb hne
 exact⟨cap,hcap,h0,h1,hf,h3,h.toks.kind i t ht,h.toks.num i t ht,fun e=>h.ne hne e.symm⟩
theorem zfs{C:Ctx}{N:Nat}(IH:PAll C N)(i:Nat)(b:Int)(w:World)(h:RP C i b w)(hv:Vb b)(hm:remP C i b*20+1<=N):Calls Tryz.prog 159 #[.pointer (some ⟨C.r,0,none⟩)] w (yH C w (PN C .atom i b)):=by
 have hS:=PSt.start h hv
 have hrl:=h.lt
 have hlen:=h.len
 have HPL:Hid (∀k,0<=placeOf C.l C.e k):=Lib.hid (yz h)
 obtain⟨q1,qf,q3⟩:=h.at1
 generalize hQ:yH C w (PN C .atom i b)=Q
 have HQ:Hid (∀v l j b' w',w'.ownsRow w.heap.size 50 6 v l.length (ndCells l)->RP C j b' w'->Gr C.r w w'->PN C .atom i b l j b'->Q (.returned v) w'):=Lib.hid (fun v l j b' w' h1 h2 h3 h4=>by rw[<-hQ];exact⟨v,l,j,b',rfl,h1,h2,h3,h4⟩)
 clear hQ
 have HIH:=Lib.hid IH
 clear IH
 rcases hv with hb|HB
 ·subst hb
  rw[remP_good (by omega)] at hm
  by_cases hlt:i<C.l.length
  ·obtain⟨t,ht⟩:∃t,C.l[i]? =some t:=⟨_,List.getElem?_eq_getElem hlt⟩
   have HT:=Lib.hid ht
   have HLT:=Lib.hid hlt
   clear ht
   by_cases hk:t.kind=1
   ·have hk1:(t.kind==1)=true:=by simp[hk]
    have HF:Hid (PN C .atom i (-1) (nodeL ⟨0,10,⟨#[]⟩,t.num,0,placeOf C.l C.e i⟩ []) (i+1) (-1)):=Lib.hid (by
     have e:numAtT C.l i=t.num:=by unfold numAtT;rw[HT.out]
     rw[<-e]
     exact zeS (by unfold numbB;rw[HT.out];exact decide_eq_true hk))
    clear h
    go_enter Tryz.func159,Tryz.ntmps159
    go_wp2_with (first|(go_at_call 88;with_reducible refine(zq C _ _ _ hS.rp).mono ?_;rintro e w' ⟨rfl,K⟩;replace hS:=hS.kin K;clear q1 qf q3;obtain⟨q1,qf,q3⟩:=hS.rp.at1;skip;clear K))
    obtain⟨cap,hcap,q0,_,_,_,tk,tn,hrg⟩:=hS.rp.full HT.out
    rw[hk] at tk
    go_quiet (fail)
    rename_i nq
    replace hS:=hS.kin ((Kin.refl _).drewN nq)
    generalize World.drewN _ nq=wq at hS⊢
    clear q1 qf q3
    obtain⟨q1,qf,q3⟩:=hS.rp.at1
    clear q0 tk tn
    obtain⟨cap,hcap,q0,_,_,_,tk,tn,hrg⟩:=hS.rp.full HT.out
    rw[hk] at tk
    go_wp2_with fail
    have hS2:=hS.inc2 HLT.out
    generalize World.setCell _ ⟨C.r,1,none⟩ (.int .i64 (((i:Nat):Int)+1))=wJ at hS2⊢
    clear hS q1 qf q3 q0 tk tn hcap
    have hS:=hS2
    clear hS2
    obtain⟨bo,cap2,hbo,hcap,q0,q1,_⟩:=hS.rp.cells
    obtain rfl:=hbo (by rintro e;rw[e] at hlt;simp at hlt)
    have tn:=hS.rp.toks.num i t HT.out
    rw[show(((i+1:Nat)):Int)=(i:Int)+1 from by simp] at q1
    have hwi:=zfj (n:=i) (by omega)
    go_still_tail 14,(by kernel_rfl)
    replace hS:=hS.kin ((Kin.refl _).drewN 1)
    change wpList _ _ _ _ _ (World.drew _)
    change PSt C w _ (i+1) (-1) (World.drew _) at hS
    generalize World.drew _=wI at hS⊢
    clear q1 q0 tn
    go_wp2_with (first|(go_at_call 91;with_reducible refine(qM ⟨0,10,⟨#[]⟩,t.num,0,placeOf C.l C.e i⟩ w.heap.size _ hS.gr.size).mono ?_;rintro e w' ⟨v,rfl,ho2,K2⟩;replace hS:=hS.kin K2;clear K2))
    exact HQ.out _ _ _ _ _ ho2 hS.rp hS.gr HF.out
   ·have hk1:(t.kind==1)=false:=by simp[hk]
    cases xI1:comesB C.l i ⟨#[116,114,117,101]⟩ with
    |true=>
     have I1:Hid (isP C i (-1) ⟨#[116,114,117,101]⟩=true):=Lib.hid (by rw[isP_good];exact xI1)
     have HF:Hid (PN C .atom i (-1) (nodeL ⟨0,11,⟨#[]⟩,1,0,placeOf C.l C.e i⟩ []) (i+1) (-1)):=Lib.hid (zij xI1)
     clear h
     go_enter Tryz.func159,Tryz.ntmps159
     go_wp2_with (first|(go_at_call 88;with_reducible refine(zq C _ _ _ hS.rp).mono ?_;rintro e w' ⟨rfl,K⟩;replace hS:=hS.kin K;clear q1 qf q3;obtain⟨q1,qf,q3⟩:=hS.rp.at1;skip;clear K))
     obtain⟨cap,hcap,q0,_,_,_,tk,tn,hrg⟩:=hS.rp.full HT.out
     go_quiet (fail)
     rename_i nq
     replace hS:=hS.kin ((Kin.refl _).drewN nq)
     generalize World.drewN _ nq=wq at hS⊢
     clear q1 qf q3
     obtain⟨q1,qf,q3⟩:=hS.rp.at1
     clear q0 tk tn
     go_upto_region 7 with(first|(go_at_call 46;with_reducible refine(za C _ _ ⟨#[116,114,117,101]⟩ _ hS.rp).mono ?_;rintro e w' ⟨rfl,K⟩;replace hS:=hS.kin K;clear q1 qf q3;obtain⟨q1,qf,q3⟩:=hS.rp.at1;skip;rw[I1.out];clear K))
     have hS2:=hS.inc2 HLT.out
     generalize World.setCell _ ⟨C.r,1,none⟩ (.int .i64 (((i:Nat):Int)+1))=wI at hS2⊢
     clear hS q1 qf q3
     have hS:=hS2
     clear hS2
     obtain⟨q1,qf,q3⟩:=hS.rp.at1
     go_wp2_with (first|(go_at_call 91;with_reducible refine(qM ⟨0,11,⟨#[]⟩,1,0,placeOf C.l C.e i⟩ w.heap.size _ hS.gr.size).mono ?_;rintro e w' ⟨v,rfl,ho2,K2⟩;replace hS:=hS.kin K2;clear K2))
     exact HQ.out _ _ _ _ _ ho2 hS.rp hS.gr HF.out
    |false=>
     cases xI2:comesB C.l i ⟨#[102,97,108,115,101]⟩ with
     |true=>
      have I1:Hid (isP C i (-1) ⟨#[116,114,117,101]⟩=false):=Lib.hid (by rw[isP_good];exact xI1)
      have I2:Hid (isP C i (-1) ⟨#[102,97,108,115,101]⟩=true):=Lib.hid (by rw[isP_good];exact xI2)
      have HF:Hid (PN C .atom i (-1) (nodeL ⟨0,11,⟨#[]⟩,0,0,placeOf C.l C.e i⟩ []) (i+1) (-1)):=Lib.hid (zgK xI1 xI2)
      clear h
      go_enter Tryz.func159,Tryz.ntmps159
      go_wp2_with (first|(go_at_call 88;with_reducible refine(zq C _ _ _ hS.rp).mono ?_;rintro e w' ⟨rfl,K⟩;replace hS:=hS.kin K;clear q1 qf q3;obtain⟨q1,qf,q3⟩:=hS.rp.at1;skip;clear K))
      obtain⟨cap,hcap,q0,_,_,_,tk,tn,hrg⟩:=hS.rp.full HT.out
      go_quiet (fail)
      rename_i nq
      replace hS:=hS.kin ((Kin.refl _).drewN nq)
      generalize World.drewN _ nq=wq at hS⊢
      clear q1 qf q3
      obtain⟨q1,qf,q3⟩:=hS.rp.at1
      clear q0 tk tn
      go_upto_region 10 with(first|(go_at_call 46;with_reducible refine(za C _ _ ⟨#[116,114,117,101]⟩ _ hS.rp).mono ?_;rintro e w' ⟨rfl,K⟩;replace hS:=hS.kin K;clear q1 qf q3;obtain⟨q1,qf,q3⟩:=hS.rp.at1;skip;rw[I1.out];clear K)|(go_at_call 46;with_reducible refine(za C _ _ ⟨#[102,97,108,115,101]⟩ _ hS.rp).mono ?_;rintro e w' ⟨rfl,K⟩;replace hS:=hS.kin K;clear q1 qf q3;obtain⟨q1,qf,q3⟩:=hS.rp.at1;skip;rw[I2.out];clear K))
      have hS2:=hS.inc2 HLT.out
      generalize World.setCell _ ⟨C.r,1,none⟩ (.int .i64 (((i:Nat):Int)+1))=wI at hS2⊢
      clear hS q1 qf q3
      have hS:=hS2
      clear hS2
      obtain⟨q1,qf,q3⟩:=hS.rp.at1
      go_wp2_with (first|(go_at_call 91;with_reducible refine(qM ⟨0,11,⟨#[]⟩,0,0,placeOf C.l C.e i⟩ w.heap.size _ hS.gr.size).mono ?_;rintro e w' ⟨v,rfl,ho2,K2⟩;replace hS:=hS.kin K2;clear K2))
      exact HQ.out _ _ _ _ _ ho2 hS.rp hS.gr HF.out
     |false=>
      cases xI3:comesB C.l i ⟨#[40]⟩ with
      |true=>
       have I1:Hid (isP C i (-1) ⟨#[116,114,117,101]⟩=false):=Lib.hid (by rw[isP_good];exact xI1)
       have I2:Hid (isP C i (-1) ⟨#[102,97,108,115,101]⟩=false):=Lib.hid (by rw[isP_good];exact xI2)
       have I3:Hid (isP C i (-1) ⟨#[40]⟩=true):=Lib.hid (by rw[isP_good];exact xI3)
       have HF:Hid (∀l j b',PN C (.row 0) (i+1) (-1) l j b'->PN C .atom i (-1) l (zi C j b' ⟨#[41]⟩) (zn C j b' ⟨#[41]⟩)):=Lib.hid (fun l j b' hp=>zgJ ⟨xI1,xI2⟩ xI3 HPL.out hp)
       clear h
       go_enter Tryz.func159,Tryz.ntmps159
       go_wp2_with (first|(go_at_call 88;with_reducible refine(zq C _ _ _ hS.rp).mono ?_;rintro e w' ⟨rfl,K⟩;replace hS:=hS.kin K;clear q1 qf q3;obtain⟨q1,qf,q3⟩:=hS.rp.at1;skip;clear K))
       obtain⟨cap,hcap,q0,_,_,_,tk,tn,hrg⟩:=hS.rp.full HT.out
       go_quiet (fail)
       rename_i nq
       replace hS:=hS.kin ((Kin.refl _).drewN nq)
       generalize World.drewN _ nq=wq at hS⊢
       clear q1 qf q3
       obtain⟨q1,qf,q3⟩:=hS.rp.at1
       clear q0 tk tn
       go_upto_region 13 with(first|(go_at_call 46;with_reducible refine(za C _ _ ⟨#[116,114,117,101]⟩ _ hS.rp).mono ?_;rintro e w' ⟨rfl,K⟩;replace hS:=hS.kin K;clear q1 qf q3;obtain⟨q1,qf,q3⟩:=hS.rp.at1;skip;rw[I1.out];clear K)|(go_at_call 46;with_reducible refine(za C _ _ ⟨#[102,97,108,115,101]⟩ _ hS.rp).mono ?_;rintro e w' ⟨rfl,K⟩;replace hS:=hS.kin K;clear q1 qf q3;obtain⟨q1,qf,q3⟩:=hS.rp.at1;skip;rw[I2.out];clear K)|(go_at_call 46;with_reducible refine(za C _ _ ⟨#[40]⟩ _ hS.rp).mono ?_;rintro e w' ⟨rfl,K⟩;replace hS:=hS.kin K;clear q1 qf q3;obtain⟨q1,qf,q3⟩:=hS.rp.at1;skip;rw[I3.out];clear K))
       have hS2:=hS.inc2 HLT.out
       generalize World.setCell _ ⟨C.r,1,none⟩ (.int .i64 (((i:Nat):Int)+1))=wI at hS2⊢
       clear hS q1 qf q3
       have hS:=hS2
       clear hS2
       obtain⟨q1,qf,q3⟩:=hS.rp.at1
       go_wp2_with (first|(go_at_call 93;with_reducible refine(HIH.out.expr0 _ _ _ hS.rp hS.vb (by have:=hS.rem;omega)).mono ?_;rintro e w' ⟨v1,l1,j1,b1,rfl,ho,hR,G,hP1⟩;obtain⟨bo1,m1,c1,rfl⟩:=zQ ho;skip;have hl1:=lst_of ho hS.gr.size hP1 hR;replace hS:=hS.sub hR G hP1;clear q1 qf q3;obtain⟨q1,qf,q3⟩:=hS.rp.at1;clear ho hR G)|(go_at_call 90;with_reducible refine(zB C _ _ ⟨#[41]⟩ _ hS.rp).mono ?_;rintro e w' ⟨rfl,hR,hG⟩;have G:=Gr.of_grew hG;replace hl1:=hl1.gr G hrl;replace hS:=hS.take hR hG;clear q1 qf q3;obtain⟨q1,qf,q3⟩:=hS.rp.at1;clear hR hG G))
       exact HQ.out _ _ _ _ _ hl1.1 hS.rp hS.gr (HF.out _ _ _ hP1)
      |false=>
       cases xI4:namedB C.l i with
       |false=>
        have I1:Hid (isP C i (-1) ⟨#[116,114,117,101]⟩=false):=Lib.hid (by rw[isP_good];exact xI1)
        have I2:Hid (isP C i (-1) ⟨#[102,97,108,115,101]⟩=false):=Lib.hid (by rw[isP_good];exact xI2)
        have I3:Hid (isP C i (-1) ⟨#[40]⟩=false):=Lib.hid (by rw[isP_good];exact xI3)
        have I4:Hid (namedP C i (-1)=false):=Lib.hid (by rw[yX];exact xI4)
        have HF:Hid (PN C .atom i (-1) [] i (bad1 C i (-1))):=Lib.hid (gX ⟨xI1,xI2⟩ xI3 xI4 (by unfold numbB;rw[HT.out];exact decide_eq_false hk) (HPL.out i))
        clear h
        go_enter Tryz.func159,Tryz.ntmps159
        go_wp2_with (first|(go_at_call 88;with_reducible refine(zq C _ _ _ hS.rp).mono ?_;rintro e w' ⟨rfl,K⟩;replace hS:=hS.kin K;clear q1 qf q3;obtain⟨q1,qf,q3⟩:=hS.rp.at1;skip;clear K))
        obtain⟨cap,hcap,q0,_,_,_,tk,tn,hrg⟩:=hS.rp.full HT.out
        go_quiet (fail)
        rename_i nq
        replace hS:=hS.kin ((Kin.refl _).drewN nq)
        generalize World.drewN _ nq=wq at hS⊢
        clear q1 qf q3
        obtain⟨q1,qf,q3⟩:=hS.rp.at1
        clear q0 tk tn
        go_wp2_with (first|(go_at_call 46;with_reducible refine(za C _ _ ⟨#[116,114,117,101]⟩ _ hS.rp).mono ?_;rintro e w' ⟨rfl,K⟩;replace hS:=hS.kin K;clear q1 qf q3;obtain⟨q1,qf,q3⟩:=hS.rp.at1;skip;rw[I1.out];clear K)|(go_at_call 46;with_reducible refine(za C _ _ ⟨#[102,97,108,115,101]⟩ _ hS.rp).mono ?_;rintro e w' ⟨rfl,K⟩;replace hS:=hS.kin K;clear q1 qf q3;obtain⟨q1,qf,q3⟩:=hS.rp.at1;skip;rw[I2.out];clear K)|(go_at_call 46;with_reducible refine(za C _ _ ⟨#[40]⟩ _ hS.rp).mono ?_;rintro e w' ⟨rfl,K⟩;replace hS:=hS.kin K;clear q1 qf q3;obtain⟨q1,qf,q3⟩:=hS.rp.at1;skip;rw[I3.out];clear K)|(go_at_call 129;with_reducible refine(qn C _ _ _ hS.rp).mono ?_;rintro e w' ⟨rfl,K⟩;replace hS:=hS.kin K;clear q1 qf q3;obtain⟨q1,qf,q3⟩:=hS.rp.at1;skip;rw[I4.out];clear K)|(go_at_call 92;with_reducible refine(xH C _ _ _ hS.rp).mono ?_;rintro e w' ⟨rfl,hR,hG⟩;have G:=Gr.of_grew hG;skip;replace hS:=hS.fail hR hG;clear q1 qf q3;obtain⟨q1,qf,q3⟩:=hS.rp.at1;clear hR hG G))
        exact HQ.out _ _ _ _ _ (World.ownsRow_nil _ _ _ _) hS.rp hS.gr HF.out
       |true=>
        cases xI5:comesB C.l (i+1) ⟨#[91]⟩ with
        |false=>
         have I1:Hid (isP C i (-1) ⟨#[116,114,117,101]⟩=false):=Lib.hid (by rw[isP_good];exact xI1)
         have I2:Hid (isP C i (-1) ⟨#[102,97,108,115,101]⟩=false):=Lib.hid (by rw[isP_good];exact xI2)
         have I3:Hid (isP C i (-1) ⟨#[40]⟩=false):=Lib.hid (by rw[isP_good];exact xI3)
         obtain⟨hnj,hnb,hnt⟩:=qF xI4
         have I4:Hid (namedP C i (-1)=true):=Lib.hid (by rw[yX];exact xI4)
         have I5:Hid (isP C (nameJ C i (-1)) (zE C i (-1)) ⟨#[91]⟩=false):=Lib.hid (by rw[hnj,hnb,isP_good];exact xI5)
         have HF:Hid (PN C .atom i (-1) (nodeL ⟨0,12,zX C i (-1),0,0,placeOf C.l C.e i⟩ []) (nameJ C i (-1)) (zE C i (-1))):=Lib.hid (by rw[hnj,hnb,hnt];exact zil ⟨xI1,xI2⟩ xI3 xI4 xI5)
         clear hnj hnb hnt
         clear h
         go_enter Tryz.func159,Tryz.ntmps159
         go_wp2_with (first|(go_at_call 88;with_reducible refine(zq C _ _ _ hS.rp).mono ?_;rintro e w' ⟨rfl,K⟩;replace hS:=hS.kin K;clear q1 qf q3;obtain⟨q1,qf,q3⟩:=hS.rp.at1;skip;clear K))
         obtain⟨cap,hcap,q0,_,_,_,tk,tn,hrg⟩:=hS.rp.full HT.out
         go_quiet (fail)
         rename_i nq
         replace hS:=hS.kin ((Kin.refl _).drewN nq)
         generalize World.drewN _ nq=wq at hS⊢
         clear q1 qf q3
         obtain⟨q1,qf,q3⟩:=hS.rp.at1
         clear q0 tk tn
         go_wp2_with (first|(go_at_call 46;with_reducible refine(za C _ _ ⟨#[116,114,117,101]⟩ _ hS.rp).mono ?_;rintro e w' ⟨rfl,K⟩;replace hS:=hS.kin K;clear q1 qf q3;obtain⟨q1,qf,q3⟩:=hS.rp.at1;skip;rw[I1.out];clear K)|(go_at_call 46;with_reducible refine(za C _ _ ⟨#[102,97,108,115,101]⟩ _ hS.rp).mono ?_;rintro e w' ⟨rfl,K⟩;replace hS:=hS.kin K;clear q1 qf q3;obtain⟨q1,qf,q3⟩:=hS.rp.at1;skip;rw[I2.out];clear K)|(go_at_call 46;with_reducible refine(za C _ _ ⟨#[40]⟩ _ hS.rp).mono ?_;rintro e w' ⟨rfl,K⟩;replace hS:=hS.kin K;clear q1 qf q3;obtain⟨q1,qf,q3⟩:=hS.rp.at1;skip;rw[I3.out];clear K)|(go_at_call 129;with_reducible refine(qn C _ _ _ hS.rp).mono ?_;rintro e w' ⟨rfl,K⟩;replace hS:=hS.kin K;clear q1 qf q3;obtain⟨q1,qf,q3⟩:=hS.rp.at1;skip;rw[I4.out];clear K)|(go_at_call 89;with_reducible refine(xK C _ _ _ hS.rp).mono ?_;rintro e w' ⟨rfl,hR,G⟩;skip;replace hS:=hS.name hR G;clear q1 qf q3;obtain⟨q1,qf,q3⟩:=hS.rp.at1;clear hR G)|(go_at_call 46;with_reducible refine(za C _ _ ⟨#[91]⟩ _ hS.rp).mono ?_;rintro e w' ⟨rfl,K⟩;replace hS:=hS.kin K;clear q1 qf q3;obtain⟨q1,qf,q3⟩:=hS.rp.at1;skip;rw[I5.out];clear K)|(go_at_call 91;with_reducible refine(qM ⟨0,12,zX C i (-1),0,0,placeOf C.l C.e i⟩ w.heap.size _ hS.gr.size).mono ?_;rintro e w' ⟨v,rfl,ho2,K2⟩;replace hS:=hS.kin K2;clear K2))
         exact HQ.out _ _ _ _ _ ho2 hS.rp hS.gr HF.out
        |true=>
         have I1:Hid (isP C i (-1) ⟨#[116,114,117,101]⟩=false):=Lib.hid (by rw[isP_good];exact xI1)
         have I2:Hid (isP C i (-1) ⟨#[102,97,108,115,101]⟩=false):=Lib.hid (by rw[isP_good];exact xI2)
         have I3:Hid (isP C i (-1) ⟨#[40]⟩=false):=Lib.hid (by rw[isP_good];exact xI3)
         obtain⟨hnj,hnb,hnt⟩:=qF xI4
         have I4:Hid (namedP C i (-1)=true):=Lib.hid (by rw[yX];exact xI4)
         have I5:Hid (isP C (nameJ C i (-1)) (zE C i (-1)) ⟨#[91]⟩=true):=Lib.hid (by rw[hnj,hnb,isP_good];exact xI5)
         have HF:Hid (∀v l j b',PN C (.row 0) (nameJ C i (-1)+1) (zE C i (-1)) l j b'->PN C .atom i (-1) (nodeL ⟨0,13,zX C i (-1),0,0,placeOf C.l C.e i⟩ [(v,l)]) (zi C j b' ⟨#[93]⟩) (zn C j b' ⟨#[93]⟩)):=Lib.hid (fun v l j b' hp=>by rw[hnj,hnb] at hp;rw[hnt];exact zim ⟨xI1,xI2⟩ xI3 xI4 xI5 HPL.out hp)
         have HLT:Hid (nameJ C i (-1)<C.l.length):=Lib.hid (by rw[hnj];exact comes_lt xI5)
         have hm2:(C.l.length-(nameJ C i (-1)+1)+1)*20+9<N:=by rw[hnj];omega
         have hltJ:=HLT.out
         clear hnj hnb hnt
         clear h
         go_enter Tryz.func159,Tryz.ntmps159
         go_wp2_with (first|(go_at_call 88;with_reducible refine(zq C _ _ _ hS.rp).mono ?_;rintro e w' ⟨rfl,K⟩;replace hS:=hS.kin K;clear q1 qf q3;obtain⟨q1,qf,q3⟩:=hS.rp.at1;skip;clear K))
         obtain⟨cap,hcap,q0,_,_,_,tk,tn,hrg⟩:=hS.rp.full HT.out
         go_quiet (fail)
         rename_i nq
         replace hS:=hS.kin ((Kin.refl _).drewN nq)
         generalize World.drewN _ nq=wq at hS⊢
         clear q1 qf q3
         obtain⟨q1,qf,q3⟩:=hS.rp.at1
         clear q0 tk tn
         go_upto_region 23 with(first|(go_at_call 46;with_reducible refine(za C _ _ ⟨#[116,114,117,101]⟩ _ hS.rp).mono ?_;rintro e w' ⟨rfl,K⟩;replace hS:=hS.kin K;clear q1 qf q3;obtain⟨q1,qf,q3⟩:=hS.rp.at1;skip;rw[I1.out];clear K)|(go_at_call 46;with_reducible refine(za C _ _ ⟨#[102,97,108,115,101]⟩ _ hS.rp).mono ?_;rintro e w' ⟨rfl,K⟩;replace hS:=hS.kin K;clear q1 qf q3;obtain⟨q1,qf,q3⟩:=hS.rp.at1;skip;rw[I2.out];clear K)|(go_at_call 46;with_reducible refine(za C _ _ ⟨#[40]⟩ _ hS.rp).mono ?_;rintro e w' ⟨rfl,K⟩;replace hS:=hS.kin K;clear q1 qf q3;obtain⟨q1,qf,q3⟩:=hS.rp.at1;skip;rw[I3.out];clear K)|(go_at_call 129;with_reducible refine(qn C _ _ _ hS.rp).mono ?_;rintro e w' ⟨rfl,K⟩;replace hS:=hS.kin K;clear q1 qf q3;obtain⟨q1,qf,q3⟩:=hS.rp.at1;skip;rw[I4.out];clear K)|(go_at_call 89;with_reducible refine(xK C _ _ _ hS.rp).mono ?_;rintro e w' ⟨rfl,hR,G⟩;skip;replace hS:=hS.name hR G;clear q1 qf q3;obtain⟨q1,qf,q3⟩:=hS.rp.at1;clear hR G)|(go_at_call 46;with_reducible refine(za C _ _ ⟨#[91]⟩ _ hS.rp).mono ?_;rintro e w' ⟨rfl,K⟩;replace hS:=hS.kin K;clear q1 qf q3;obtain⟨q1,qf,q3⟩:=hS.rp.at1;skip;rw[I5.out];clear K))
         have hS2:=hS.inc2 HLT.out
         generalize World.setCell _ ⟨C.r,1,none⟩ (.int .i64 (((nameJ C i (-1):Nat):Int)+1))=wI at hS2⊢
         clear hS q1 qf q3
         have hS:=hS2
         clear hS2
         obtain⟨q1,qf,q3⟩:=hS.rp.at1
         go_wp2_with (first|(go_at_call 93;with_reducible refine(HIH.out.expr0 _ _ _ hS.rp hS.vb (by have:=hS.rem;omega)).mono ?_;rintro e w' ⟨v1,l1,j1,b1,rfl,ho,hR,G,hP1⟩;obtain⟨bo1,m1,c1,rfl⟩:=zQ ho;skip;have hl1:=lst_of ho hS.gr.size hP1 hR;replace hS:=hS.sub hR G hP1;clear q1 qf q3;obtain⟨q1,qf,q3⟩:=hS.rp.at1;clear ho hR G)|(go_at_call 90;with_reducible refine(zB C _ _ ⟨#[93]⟩ _ hS.rp).mono ?_;rintro e w' ⟨rfl,hR,hG⟩;have G:=Gr.of_grew hG;replace hl1:=hl1.gr G hrl;replace hS:=hS.take hR hG;clear q1 qf q3;obtain⟨q1,qf,q3⟩:=hS.rp.at1;clear hR hG G)|(go_at_call 91;with_reducible refine(node1 ⟨0,13,zX C i (-1),0,0,placeOf C.l C.e i⟩ w.heap.size _ hS.gr.size (_,l1) hl1).mono ?_;rintro e w' ⟨v,rfl,ho2,K2⟩;replace hS:=hS.kin K2;clear K2))
         exact HQ.out _ _ _ _ _ ho2 hS.rp hS.gr (HF.out _ _ _ _ hP1)
  ·have hdd:decide ((i:Int)<(C.l.length:Int))=false:=decide_eq_false (by omega)
   have hnone:C.l[i]? =none:=List.getElem?_eq_none (by omega)
   have I1:Hid (isP C i (-1) ⟨#[116,114,117,101]⟩=false):=Lib.hid (by rw[isP_good];unfold comesB;rw[hnone])
   have I2:Hid (isP C i (-1) ⟨#[102,97,108,115,101]⟩=false):=Lib.hid (by rw[isP_good];unfold comesB;rw[hnone])
   have I3:Hid (isP C i (-1) ⟨#[40]⟩=false):=Lib.hid (by rw[isP_good];unfold comesB;rw[hnone])
   have I4:Hid (namedP C i (-1)=false):=Lib.hid (by rw[yX];unfold namedB;rw[hnone])
   have HF:Hid (PN C .atom i (-1) [] i (bad1 C i (-1))):=Lib.hid (gX ⟨by unfold comesB;rw[hnone],by unfold comesB;rw[hnone]⟩ (by unfold comesB;rw[hnone]) (by unfold namedB;rw[hnone]) (by unfold numbB;rw[hnone]) (HPL.out i))
   clear h hnone
   go_enter Tryz.func159,Tryz.ntmps159
   go_wp2_with (first|(go_at_call 88;with_reducible refine(zq C _ _ _ hS.rp).mono ?_;rintro e w' ⟨rfl,K⟩;replace hS:=hS.kin K;clear q1 qf q3;obtain⟨q1,qf,q3⟩:=hS.rp.at1;skip;clear K))
   obtain⟨bo,cap,hbo,hcap,q0,_⟩:=hS.rp.cells
   clear hbo
   go_quiet (fail)
   rename_i nq
   replace hS:=hS.kin ((Kin.refl _).drewN nq)
   generalize World.drewN _ nq=wq at hS⊢
   clear q1 qf q3
   obtain⟨q1,qf,q3⟩:=hS.rp.at1
   clear q0
   go_wp2_with (first|(go_at_call 46;with_reducible refine(za C _ _ ⟨#[116,114,117,101]⟩ _ hS.rp).mono ?_;rintro e w' ⟨rfl,K⟩;replace hS:=hS.kin K;clear q1 qf q3;obtain⟨q1,qf,q3⟩:=hS.rp.at1;skip;rw[I1.out];clear K)|(go_at_call 46;with_reducible refine(za C _ _ ⟨#[102,97,108,115,101]⟩ _ hS.rp).mono ?_;rintro e w' ⟨rfl,K⟩;replace hS:=hS.kin K;clear q1 qf q3;obtain⟨q1,qf,q3⟩:=hS.rp.at1;skip;rw[I2.out];clear K)|(go_at_call 46;with_reducible refine(za C _ _ ⟨#[40]⟩ _ hS.rp).mono ?_;rintro e w' ⟨rfl,K⟩;replace hS:=hS.kin K;clear q1 qf q3;obtain⟨q1,qf,q3⟩:=hS.rp.at1;skip;rw[I3.out];clear K)|(go_at_call 129;with_reducible refine(qn C _ _ _ hS.rp).mono ?_;rintro e w' ⟨rfl,K⟩;replace hS:=hS.kin K;clear q1 qf q3;obtain⟨q1,qf,q3⟩:=hS.rp.at1;skip;rw[I4.out];clear K)|(go_at_call 92;with_reducible refine(xH C _ _ _ hS.rp).mono ?_;rintro e w' ⟨rfl,hR,hG⟩;have G:=Gr.of_grew hG;skip;replace hS:=hS.fail hR hG;clear q1 qf q3;obtain⟨q1,qf,q3⟩:=hS.rp.at1;clear hR hG G))
   exact HQ.out _ _ _ _ _ (World.ownsRow_nil _ _ _ _) hS.rp hS.gr HF.out
 ·have hb0:0<=b:=HB
  have hd:decide (b<0)=false:=decide_eq_false (by omega)
  have I1:Hid (isP C i b ⟨#[116,114,117,101]⟩=false):=Lib.hid (uf HB)
  have I2:Hid (isP C i b ⟨#[102,97,108,115,101]⟩=false):=Lib.hid (uf HB)
  have I3:Hid (isP C i b ⟨#[40]⟩=false):=Lib.hid (uf HB)
  have I4:Hid (namedP C i b=false):=Lib.hid (zdI HB)
  have HF:Hid (PN C .atom i b [] i (bad1 C i b)):=Lib.hid (by rw[uW HB];exact zeT HB (by simp) .nil)
  clear h
  go_enter Tryz.func159,Tryz.ntmps159
  go_wp2_with (first|(go_at_call 88;with_reducible refine(zq C _ _ _ hS.rp).mono ?_;rintro e w' ⟨rfl,K⟩;replace hS:=hS.kin K;clear q1 qf q3;obtain⟨q1,qf,q3⟩:=hS.rp.at1;skip;clear K))
  obtain⟨bo,cap,hbo,hcap,q0,_⟩:=hS.rp.cells
  clear hbo
  go_quiet (fail)
  rename_i nq
  replace hS:=hS.kin ((Kin.refl _).drewN nq)
  generalize World.drewN _ nq=wq at hS⊢
  clear q1 qf q3
  obtain⟨q1,qf,q3⟩:=hS.rp.at1
  clear q0
  go_wp2_with (first|(go_at_call 46;with_reducible refine(za C _ _ ⟨#[116,114,117,101]⟩ _ hS.rp).mono ?_;rintro e w' ⟨rfl,K⟩;replace hS:=hS.kin K;clear q1 qf q3;obtain⟨q1,qf,q3⟩:=hS.rp.at1;skip;rw[I1.out];clear K)|(go_at_call 46;with_reducible refine(za C _ _ ⟨#[102,97,108,115,101]⟩ _ hS.rp).mono ?_;rintro e w' ⟨rfl,K⟩;replace hS:=hS.kin K;clear q1 qf q3;obtain⟨q1,qf,q3⟩:=hS.rp.at1;skip;rw[I2.out];clear K)|(go_at_call 46;with_reducible refine(za C _ _ ⟨#[40]⟩ _ hS.rp).mono ?_;rintro e w' ⟨rfl,K⟩;replace hS:=hS.kin K;clear q1 qf q3;obtain⟨q1,qf,q3⟩:=hS.rp.at1;skip;rw[I3.out];clear K)|(go_at_call 129;with_reducible refine(qn C _ _ _ hS.rp).mono ?_;rintro e w' ⟨rfl,K⟩;replace hS:=hS.kin K;clear q1 qf q3;obtain⟨q1,qf,q3⟩:=hS.rp.at1;skip;rw[I4.out];clear K)|(go_at_call 92;with_reducible refine(xH C _ _ _ hS.rp).mono ?_;rintro e w' ⟨rfl,hR,hG⟩;have G:=Gr.of_grew hG;skip;replace hS:=hS.fail hR hG;clear q1 qf q3;obtain⟨q1,qf,q3⟩:=hS.rp.at1;clear hR hG G))
  exact HQ.out _ _ _ _ _ (World.ownsRow_nil _ _ _ _) hS.rp hS.gr HF.out
theorem uu{x:List UInt8}{v:Int}:∀(l:List (List UInt8×Int)),l.lookup x=some v->∃a,(a,v)∈l
 |[],h=>by cases h
 |(a,c)::l,h=>by
  simp only[List.lookup] at h
  split at h
  ·cases h;exact⟨a,List.mem_cons_self ..⟩
  ·obtain⟨a',ha⟩:=uu l h
   exact⟨a',List.mem_cons_of_mem _ ha⟩
theorem zeY(k:Nat):∀p∈opsOf k,p.2≠0:=by
 rcases k with _|_|_|_|k<;>simp[opsOf]
theorem opAt_ne{k:Nat}{l:List Item}{i:Nat}{op:Int}(h:opAt k l i=some op):op≠0:=by
 unfold opAt at h
 split at h
 ·split at h
  ·obtain⟨a,ha⟩:=uu _ h
   exact zeY k _ ha
  ·cases h
 ·cases h
theorem opP_zero{C:Ctx}{k j:Nat}(h:opP C k j (-1)=0):opAt k C.l j=none:=by
 unfold opP at h
 rw[if_pos (by omega)] at h
 cases hx:opAt k C.l j with
 |none=>rfl
 |some x=>rw[hx] at h;exact absurd h (opAt_ne hx)
theorem zaY{C:Ctx}{k j:Nat}{b x:Int}(h:opP C k j b=x)(hx:x≠0):b<0/\opAt k C.l j=some x/\j<C.l.length:=by
 unfold opP at h
 split at h
 ·rename_i hb
  cases hy:opAt k C.l j with
  |none=>rw[hy] at h;exact absurd h.symm hx
  |some y=>rw[hy] at h;exact⟨hb,by rw[<-h];rfl,gy hy⟩
 ·exact absurd h.symm hx
def RowI(C:Ctx)(k i:Nat)(b:Int)(l:List Nd)(j:Nat)(b':Int):Prop:=
 i<=j/\l.length<=j-i/\NtOk l/\Vb b'/\(0<=b->j=i/\b'=b)/\
 (b= -1->(b'= -1/\∃left,l=flatTs [left] 1/\∀f r,rd C f (.row k) i=some r->∃f',rd C f' (.rest k left) j=some r)\/(0<=b'/\∀f r,rd C f (.row k) i=some r->r= .no b'))
theorem zdt(C:Ctx)(nt:NT)(i:Nat):∃f r,rd C f nt i=some r:=zcJ C _ nt i (Nat.lt_succ_self _)
theorem zdr{C:Ctx}{k i j:Nat}{b b':Int}{l:List Nd}(hk:k<5)(h:PN C (.row (k+1)) i b l j b'):RowI C k i b l j b':=by
 obtain⟨h1,h2,h3,h4,h5,h6⟩:=h
 refine⟨h1,h2,h3,h4,h5,fun hb=>?_⟩
 obtain⟨f1,r1,hr1⟩:=zdt C (.row (k+1)) i
 have hA:=h6 hb f1 r1 hr1
 cases r1 with
 |no p=>
  obtain⟨rfl,hp⟩:=hA
  refine .inr ⟨hp,fun f r hr=>?_⟩
  cases f with
  |zero=>cases hr
  |succ f=>
   simp only[rd] at hr
   rw[if_neg (by omega)] at hr
   cases hx:rd C f (.row (k+1)) i with
   |none=>rw[hx] at hr;cases hr
   |some r2=>
    obtain rfl:=jM C hx hr1
    rw[hx] at hr
    exact(Option.some.inj hr).symm
 |ok ts j1=>
  obtain⟨rfl,hb',hl⟩:=hA
  obtain⟨t,rfl⟩:=kG C _ _ _ _ _ trivial hr1
  refine .inl ⟨hb',t,hl,fun f r hr=>?_⟩
  cases f with
  |zero=>cases hr
  |succ f=>
   simp only[rd] at hr
   rw[if_neg (by omega)] at hr
   cases hx:rd C f (.row (k+1)) i with
   |none=>rw[hx] at hr;cases hr
   |some r2=>
    obtain rfl:=jM C hx hr1
    rw[hx] at hr
    exact⟨f,hr⟩
theorem zgA{C:Ctx}{k i j:Nat}{b b':Int}{l:List Nd}(h:RowI C k i b l j b')(hop:opP C k j b'=0):PN C (.row k) i b l j b':=by
 obtain⟨h1,h2,h3,h4,h5,h6⟩:=h
 refine⟨h1,h2,h3,h4,h5,fun hb f r hr=>?_⟩
 rcases h6 hb with⟨rfl,left,hl,hf⟩|⟨hp,hf⟩
 ·obtain⟨f',hr'⟩:=hf f r hr
  cases f' with
  |zero=>cases hr'
  |succ f'=>
   simp only[rd] at hr'
   rw[opP_zero hop] at hr'
   obtain rfl:=Option.some.inj hr'
   exact⟨rfl,rfl,hl⟩
 ·rw[hf f r hr]
  exact⟨rfl,hp⟩
theorem qz(n:Nd)(x y:Value×List Nd):(nodeL n [x,y]).length=x.2.length+y.2.length+1:=by simp[nodeL,xg,xf]
theorem kj(n:Nd)(v v2:Value)(l l2:List Nd)(h:NtOk l)(h2:NtOk l2):NtOk (nodeL n [(v,l),(v2,l2)]):=jW _ _ (fun x hx=>by
 simp only[List.mem_cons,List.not_mem_nil,or_false] at hx
 rcases hx with rfl|rfl
 ·exact h
 ·exact h2)
theorem nodeL2_flat{n:Nd}{v v2:Value}{ts us:List Tr}{k:Int}{name:ByteArray}{num op a:Int}(hn:n.kind=k/\n.name=name/\n.num=num/\n.op=op/\n.at_=a):nodeL n [(v,flatTs ts 1),(v2,flatTs us 1)]=flatTs [zv k name num op a (ts++us)] 1:=
 ki hn (by simp[xg,yC,flatTs_append])
theorem gU{C:Ctx}{k i j j2:Nat}{b b' b2 x:Int}{l l2:List Nd}(v v2:Value)(hk:k<5)(h:RowI C k i b l j b')(hop:opP C k j b'=x)(hx:x≠0)(hp:PN C (.row (k+1)) (j+1) b' l2 j2 b2):
 (k≠2->RowI C k i b (nodeL ⟨0,15,zD,0,x,placeOf C.l C.e j⟩ [(v,l),(v2,l2)]) j2 b2)/\(k=2->PN C (.row k) i b (nodeL ⟨0,15,zD,0,x,placeOf C.l C.e j⟩ [(v,l),(v2,l2)]) j2 b2):=by
 obtain⟨h1,h2,h3,h4,h5,h6⟩:=h
 obtain⟨p1,p2,p3,p4,p5,p6⟩:=hp
 obtain⟨hb',hat,hlt⟩:=zaY hop hx
 have hb'1:b'= -1:=by rcases h4 with h|h<;>omega
 have hb0:¬0<=b:=fun h=>by have:=h5 h;omega
 simp only[bzN] at p2
 have hlen:(nodeL ⟨0,15,zD,0,x,placeOf C.l C.e j⟩ [(v,l),(v2,l2)]).length<=j2-i:=by rw[qz];simp only;omega
 have hok:=kj ⟨0,15,zD,0,x,placeOf C.l C.e j⟩ v v2 l l2 h3 p3
 have hij:i<=j2:=by omega
 subst hb'1
 obtain⟨f1,r1,hr1⟩:=zdt C (.row (k+1)) (j+1)
 have hA:=p6 rfl f1 r1 hr1
 refine⟨fun hk2=>⟨hij,hlen,hok,p4,fun h=>absurd h hb0,fun hb=>?_⟩,fun hk2=>⟨hij,hlen,hok,p4,fun h=>absurd h hb0,fun hb f r hr=>?_⟩⟩
 ·rcases h6 hb with⟨_,left,hl,hf⟩|⟨hp0,_⟩
  ·cases r1 with
   |no p=>
    obtain⟨rfl,hp⟩:=hA
    refine .inr ⟨hp,fun f r hr=>?_⟩
    obtain⟨f',hr'⟩:=hf f r hr
    cases f' with
    |zero=>cases hr'
    |succ f'=>
     simp only[rd] at hr'
     rw[hat] at hr'
     simp only at hr'
     cases hy:rd C f' (.row (k+1)) (j+1) with
     |none=>rw[hy] at hr';cases hr'
     |some r2=>
      obtain rfl:=jM C hy hr1
      rw[hy] at hr'
      exact(Option.some.inj hr').symm
   |ok ts j1=>
    obtain⟨rfl,hb2,hl2⟩:=hA
    obtain⟨t,rfl⟩:=kG C _ _ _ _ _ trivial hr1
    refine .inl ⟨hb2,zv 15 zD 0 x (placeOf C.l C.e j) [left,t],?_,fun f r hr=>?_⟩
    ·subst hl hl2
     exact nodeL2_flat ⟨rfl,rfl,rfl,rfl,rfl⟩
    ·obtain⟨f',hr'⟩:=hf f r hr
     cases f' with
     |zero=>cases hr'
     |succ f'=>
      simp only[rd] at hr'
      rw[hat] at hr'
      simp only at hr'
      cases hy:rd C f' (.row (k+1)) (j+1) with
      |none=>rw[hy] at hr';cases hr'
      |some r2=>
       obtain rfl:=jM C hy hr1
       rw[hy] at hr'
       simp only[andThen] at hr'
       rw[if_neg hk2] at hr'
       exact⟨f',hr'⟩
  ·omega
 ·rcases h6 hb with⟨_,left,hl,hf⟩|⟨hp0,_⟩
  ·obtain⟨f',hr'⟩:=hf f r hr
   cases f' with
   |zero=>cases hr'
   |succ f'=>
    simp only[rd] at hr'
    rw[hat] at hr'
    simp only at hr'
    cases hy:rd C f' (.row (k+1)) (j+1) with
    |none=>rw[hy] at hr';cases hr'
    |some r2=>
     obtain rfl:=jM C hy hr1
     rw[hy] at hr'
     cases r2 with
     |no p=>
      obtain⟨rfl,hp⟩:=hA
      obtain rfl:=Option.some.inj hr'
      exact⟨rfl,hp⟩
     |ok ts j1=>
      obtain⟨rfl,hb2,hl2⟩:=hA
      obtain⟨t,rfl⟩:=kG C _ _ _ _ _ trivial hr1
      simp only[andThen] at hr'
      rw[if_pos hk2] at hr'
      obtain rfl:=Option.some.inj hr'
      refine⟨rfl,hb2,?_⟩
      subst hl hl2
      exact nodeL2_flat ⟨rfl,rfl,rfl,rfl,rfl⟩
  ·omega
theorem zik{C:Ctx}{i j:Nat}{b b':Int}{l:List Nd}(h:PN C .unary i b l j b'):PN C (.row 5) i b l j b':=by
 obtain⟨h1,h2,h3,h4,h5,h6⟩:=h
 refine⟨h1,h2,h3,h4,h5,fun hb f r hr=>?_⟩
 cases f with
 |zero=>cases hr
 |succ f=>
  simp only[rd] at hr
  rw[if_pos (by omega)] at hr
  exact h6 hb f r hr
theorem PAll.expr1{C:Ctx}{N:Nat}(H:PAll C N)(k i:Nat)(b:Int)(w:World)(hk:k+1<=5)(h:RP C i b w)(hv:Vb b)(hm:remP C i b*20+(8-(k+1))<N):Calls Tryz.prog 93 #[.pointer (some ⟨C.r,0,none⟩), .int .i64 ((k:Int)+1)] w (yH C w (PN C (.row (k+1)) i b)):=by
 have:=H.expr (k+1) i b w hk h hv hm
 simpa using this
theorem ziv{C:Ctx}{wr:World}{k i j:Nat}{b b':Int}{v:Value}{l:List Nd}{B:Nat}(ho:wr.ownsRow B 50 6 v l.length (ndCells l))(hI:RowI C k i b l j b')(hR:RP C j b' wr):Lst B wr (v,l):=by
 refine⟨ho,hI.2.2.1,?_⟩
 have h1:=hI.2.1
 have h2:=hR.le
 have h3:=hR.len
 show l.length<=20000
 omega
theorem zds{C:Ctx}{N:Nat}(IH:PAll C N)(hLX:uk C.l)(k i:Nat)(hk:k<=5)(b:Int)(w:World)(h:RP C i b w)(hv:Vb b)(hm:remP C i b*20+(8-k)<=N):Calls Tryz.prog 93 #[.pointer (some ⟨C.r,0,none⟩), .int .i64 k] w (yH C w (PN C (.row k) i b)):=by
 have hS:=PSt.start h hv
 have hrl:=h.lt
 have hlen:=h.len
 have HPL:Hid (∀k,0<=placeOf C.l C.e k):=Lib.hid (yz h)
 obtain⟨q1,qf,q3⟩:=h.at1
 generalize hQ:yH C w (PN C (.row k) i b)=Q
 have HQ:Hid (∀v l j b' w',w'.ownsRow w.heap.size 50 6 v l.length (ndCells l)->RP C j b' w'->Gr C.r w w'->PN C (.row k) i b l j b'->Q (.returned v) w'):=Lib.hid (fun v l j b' w' h1 h2 h3 h4=>by rw[<-hQ];exact⟨v,l,j,b',rfl,h1,h2,h3,h4⟩)
 clear hQ
 have HIH:=Lib.hid IH
 clear IH
 have HLX:=Lib.hid hLX
 clear hLX
 by_cases h5:k=5
 ·subst h5
  clear h
  go_enter Tryz.func93,Tryz.ntmps93
  go_wp2_with (go_at_call 131;with_reducible refine(HIH.out.unary _ _ _ hS.rp hS.vb (by have:=hS.rem;omega)).mono ?_;rintro e w' ⟨v1,l1,j1,b1,rfl,ho,hR,G,hP1⟩;obtain⟨bo1,m1,c1,rfl⟩:=zQ ho;skip;have hl1:=lst_of ho hS.gr.size hP1 hR;replace hS:=hS.sub hR G hP1;clear q1 qf q3;obtain⟨q1,qf,q3⟩:=hS.rp.at1;clear ho hR G)
  exact HQ.out _ _ _ _ _ hl1.1 hS.rp hS.gr (zik hP1)
 ·have hk5:k<5:=by omega
  have hd5:((k:Int)==5)=false:=by simp;omega
  clear h
  go_enter Tryz.func93,Tryz.ntmps93
  go_wp2_with (go_at_call 93;with_reducible refine(HIH.out.expr1 k _ _ _ (by omega) hS.rp hS.vb (by have:=hS.rem;omega)).mono ?_;rintro e w' ⟨v1,l1,j1,b1,rfl,ho,hR,G,hP1⟩;obtain⟨bo1,m1,c1,rfl⟩:=zQ ho;skip;have hl1:=lst_of ho hS.gr.size hP1 hR;replace hS:=hS.sub hR G hP1;clear q1 qf q3;obtain⟨q1,qf,q3⟩:=hS.rp.at1;clear ho hR G)
  have HI1:=Lib.hid (zdr hk5 hP1)
  have HS1:=Lib.hid hS
  have HO1:=Lib.hid hl1.1
  clear hS hl1 hP1 q1 qf q3
  go_loopg [5] C.l.length (fun gg x wr=>∃(l:List Nd) (j:Nat) (b':Int),wr.ownsRow w.heap.size 50 6 x l.length (ndCells l)/\PSt C w (remP C i b) j b' wr/\RowI C k i b l j b'/\C.l.length-j<=gg)
  case atStart=>exact⟨_,_,_,HO1.out,HS1.out,HI1.out,Nat.sub_le _ _⟩
  case round=>
   obtain⟨l,j,b',hO,hS,hI,hgg⟩:=hrel
   clear HO1 HS1 HI1
   have HI:=Lib.hid hI
   have HG:=Lib.hid hgg
   have hl1:=ziv hO hI hS.rp
   obtain⟨bo,m,c,rfl⟩:=zQ hO
   clear hO hI hgg
   obtain⟨q1,qf,q3⟩:=hS.rp.at1
   generalize hx:opP C k j b'=x
   have HX:=Lib.hid hx
   by_cases hx0:x=0
   ·have hxd:(x==0)=true:=by simp[hx0]
    clear hx
    go_wp2_with (go_at_call 132;with_reducible refine(vC C HLX.out k _ hk5 _ _ hS.rp).mono ?_;rintro e w' ⟨rfl,K⟩;replace hS:=hS.kin K;replace hl1:=hl1.kin K;clear q1 qf q3;obtain⟨q1,qf,q3⟩:=hS.rp.at1;rw[HX.out];clear K)
    exact HQ.out _ _ _ _ _ hl1.1 hS.rp hS.gr (zgA HI.out (by rw[HX.out];exact hx0))
   ·have hxd:(x==0)=false:=by simp[hx0]
    obtain⟨hb1,_,hlt⟩:=zaY hx hx0
    have hb2:b= -1:=by
     rcases hv with h|h
     ·exact h
     ·have:=(HI.out.2.2.2.2.1 h).2;omega
    have hij:=HI.out.1
    have HLT:=Lib.hid hlt
    have HREM:Hid (C.l.length-(j+1)+1<=remP C i b):=Lib.hid (by rw[remP_good (by omega)];omega)
    have hm2:(C.l.length-(j+1)+1)*20+8<N:=by rw[remP_good (by omega)] at hm;omega
    clear hx hb2
    go_upto_region 9 with(first|(go_at_call 132;with_reducible refine(vC C HLX.out k _ hk5 _ _ hS.rp).mono ?_;rintro e w' ⟨rfl,K⟩;replace hS:=hS.kin K;replace hl1:=hl1.kin K;clear q1 qf q3;obtain⟨q1,qf,q3⟩:=hS.rp.at1;rw[HX.out];clear K)|(go_at_call 88;with_reducible refine(zq C _ _ _ hS.rp).mono ?_;rintro e w' ⟨rfl,K⟩;replace hS:=hS.kin K;clear q1 qf q3;obtain⟨q1,qf,q3⟩:=hS.rp.at1;replace hl1:=hl1.kin K;clear K))
    replace hl1:=hl1.gr ((Gr.refl C.r _).setCell 1 (.int .i64 (((j:Nat):Int)+1))) hrl
    have hS2:=hS.inc2 HLT.out
    generalize World.setCell _ ⟨C.r,1,none⟩ (.int .i64 (((j:Nat):Int)+1))=wI at hS2 hl1⊢
    clear hS q1 qf q3
    have hS:=hS2
    clear hS2
    obtain⟨q1,qf,q3⟩:=hS.rp.at1
    go_upto_region 11 with(first|(go_at_call 93;with_reducible refine(HIH.out.expr1 k _ _ _ (by omega) hS.rp hS.vb (by have:=hS.rem;omega)).mono ?_;rintro e w' ⟨v2,l2,j2,b2,rfl,ho,hR,G,hP2⟩;obtain⟨bo2,m2,c2,rfl⟩:=zQ ho;replace hl1:=hl1.gr G hrl;have hl2:=lst_of ho hS.gr.size hP2 hR;replace hS:=hS.sub hR G hP2;clear q1 qf q3;obtain⟨q1,qf,q3⟩:=hS.rp.at1;clear ho hR G)|(go_at_call 91;with_reducible refine(zaA ⟨0,15,⟨#[]⟩,0,x,placeOf C.l C.e j⟩ w.heap.size _ hS.gr.size (_,l) (_,l2) hl1 hl2).mono ?_;rintro e w' ⟨v,rfl,ho2,K2⟩;replace hS:=hS.kin K2;clear K2))
    by_cases hk2:k=2
    ·have hkd:((k:Int)==2)=true:=by simp[hk2]
     have HK2:=Lib.hid hk2
     clear hk2
     go_wp2_with fail
     exact HQ.out _ _ _ _ _ ho2 hS.rp hS.gr ((gU _ _ hk5 HI.out HX.out hx0 hP2).2 HK2.out)
    ·have hkd:((k:Int)==2)=false:=by simp;omega
     go_wp2_with fail
     have HN:=Lib.hid ((gU (.slice bo m c) (.slice bo2 m2 c2) hk5 HI.out HX.out hx0 hP2).1 hk2)
     go_roundg (C.l.length-j2)
     case measure=>have:=hP2.1;have:=HLT.out;have:=HG.out;omega
     case rel=>exact⟨_,_,_,ho2,hS.less (Nat.le_trans hS.rem HREM.out),HN.out,Nat.le_refl _⟩
def WdOk(l:List Item):Prop:=∀t∈l,t.kind=0->t.text.toList≠[125]
theorem yY{l:List Item}{i:Nat}{s t:ByteArray}(h:comesB l i s=true)(hne:(s.toList==t.toList)=false):comesB l i t=false:=by
 unfold comesB at h⊢
 split at h
 ·rename_i x hx
  simp only[Bool.and_eq_true,beq_iff_eq] at h
  rw[<-h.2] at hne
  simp only[hne,Bool.and_false]
 ·cases h
theorem kw_named{l:List Item}{i:Nat}{s:ByteArray}(h:comesB l i s=true)(hs:zd s=true):namedB l i=false:=by
 unfold comesB at h
 unfold namedB
 split at h
 ·rename_i x hx
  simp only[Bool.and_eq_true,beq_iff_eq] at h
  have e:zd x.text=zd s:=by unfold zd;rw[h.2]
  simp only[e,hs,Bool.not_true,Bool.and_false]
 ·cases h
theorem stmt_close{C:Ctx}(hw:WdOk C.l){f i:Nat}(h:comesB C.l i ⟨#[125]⟩=true):rd C (f+1) .stmt i=some (.ok [] i):=by
 have hn:namedB C.l i=false:=by
  have h':=h
  unfold comesB at h'
  unfold namedB
  split at h'
  ·rename_i x hx
   simp only[Bool.and_eq_true,beq_iff_eq] at h'
   by_cases hk:x.kind=0
   ·exact absurd h'.2 (by have:=hw x (List.mem_of_getElem? hx) hk;rwa [ByteArray.toList_eq (bs:=(⟨#[125]⟩:ByteArray))])
   ·simp[hk]
  ·cases h'
 have c1:comesB C.l i ⟨#[105,110,112,117,116]⟩=false:=yY h (by kernel_rfl)
 have c2:comesB C.l i ⟨#[97,115,115,101,114,116]⟩=false:=yY h (by kernel_rfl)
 have c3:comesB C.l i ⟨#[115,107,105,112]⟩=false:=yY h (by kernel_rfl)
 have c4:comesB C.l i ⟨#[105,102]⟩=false:=yY h (by kernel_rfl)
 have c5:comesB C.l i ⟨#[119,104,105,108,101]⟩=false:=yY h (by kernel_rfl)
 simp only[rd,hn,c1,c2,c3,c4,c5]
 simp
theorem zgt{C:Ctx}{f i:Nat}(h:C.l.length<=i):rd C (f+1) .stmt i=some (.ok [] i):=by
 have hn:C.l[i]? =none:=List.getElem?_eq_none h
 have h1:namedB C.l i=false:=by unfold namedB;rw[hn]
 have h2:∀s,comesB C.l i s=false:=fun s=>by unfold comesB;rw[hn]
 simp only[rd,h1,h2]
 simp
theorem wh{C:Ctx}{f i:Nat}{r:Res (List Tr)}(h:∀f,rd C (f+1) .stmt i=some (.ok [] i))(hr:rd C f .stmts i=some r):r= .ok [] i:=by
 cases f with
 |zero=>cases hr
 |succ f=>
  simp only[rd] at hr
  cases f with
  |zero=>cases hr
  |succ f=>
   rw[h f] at hr
   exact(Option.some.inj hr).symm
def ua(ts:List Tr):Res (List Tr)->Res (List Tr)
 | .ok us k=> .ok (ts++us) k
 | .no p=> .no p
theorem zW{α:Type}{x:Option (Res α)}{F:α->Nat->Option (Res (List Tr))}{j k:Nat}(h:andThen x F=some (.ok [] k))(hF:∀a m,F a m=some (.ok [] k)->k=j):k=j:=by
 obtain⟨a,m,_,h2⟩:=xR h
 exact hF a m h2
theorem qi{t:Tr}{m j k:Nat}(h:some (Res.ok [t] m)=some (Res.ok ([]:List Tr) k)):k=j:=by simp at h
theorem qG{c:Prop}[Decidable c]{x y:Option (Res (List Tr))}{j k:Nat}(h:(if c then x else y)=some (.ok [] k))(h1:x=some (.ok [] k)->k=j)(h2:y=some (.ok [] k)->k=j):k=j:=by
 split at h
 ·exact h1 h
 ·exact h2 h
theorem zgs{C:Ctx}{f j k:Nat}(h:rd C f .stmt j=some (.ok [] k)):k=j:=by
 cases f with
 |zero=>cases h
 |succ f=>
  unfold rd at h
  refine qG h (fun h=>?_) fun h=>?_
  ·refine qG h (fun h=>?_) fun h=>?_
   ·exact zW h fun _ _ h=>zW h fun _ _ h=>zW h fun _ _ h=>zW h fun _ _ h=>zW h fun _ _ h=>qi h
   ·exact zW h fun _ _ h=>zW h fun _ _ h=>zW h fun _ _ h=>qi h
  refine qG h (fun h=>zW h fun _ _ h=>zW h fun _ _ h=>qi h) fun h=>?_
  refine qG h (fun h=>zW h fun _ _ h=>zW h fun _ _ h=>qi h) fun h=>?_
  refine qG h (fun h=>zW h fun _ _ h=>qi h) fun h=>?_
  refine qG h (fun h=>zW h fun _ _ h=>zW h fun _ _ h=>qG h (fun h=>zW h fun _ _ h=>qi h) fun h=>qi h) fun h=>?_
  refine qG h (fun h=>zW h fun _ _ h=>zW h fun _ _ h=>qi h) fun h=>?_
  simp only[Option.some.injEq,Res.ok.injEq] at h
  exact h.2.symm
def StsI(C:Ctx)(Z:Nat->Prop)(i:Nat)(b:Int)(l:List Nd)(j:Nat)(b':Int):Prop:=
 i<=j/\l.length<=j-i+1/\NtOk l/\Vb b'/\(b'= -1->l.length<=j-i)/\(0<=b->j=i/\b'=b/\l=[])/\
 (b= -1->(b'= -1/\∃ts,l=flatTs ts 1/\∀f r,rd C f .stmts i=some r->∃f' r',rd C f' .stmts j=some r'/\r=ua ts r')\/(0<=b'/\∀f r,rd C f .stmts i=some r->r= .no b'\/∃ts j',r= .ok ts j'/\placeOf C.l C.e j'=b'/\Z j'))
theorem wg{C:Ctx}{Z:Nat->Prop}{i:Nat}{b:Int}(hv:Vb b):StsI C Z i b [] i b:=
 ⟨Nat.le_refl _,by simp, .nil,hv,fun _=>by simp,fun _=>⟨rfl,rfl,rfl⟩,fun hb=> .inl ⟨hb,[],rfl,fun f r hr=>⟨f,r,hr,by cases r<;>rfl⟩⟩⟩
theorem flat1_length(ts:List Tr):(flatTs ts 1).length=nodes ts:=yK 1 0 ts
theorem gZ{ts:List Tr}(h:ts≠[]):0<nodes ts:=by
 cases ts with
 |nil=>exact absurd rfl h
 |cons t ts=>cases t with
  |mk n ks=>simp only[nodes,flatTs,flatT,List.length_append,List.length_cons];omega
theorem gM{C:Ctx}{Z:Nat->Prop}{i j j2:Nat}{b b2:Int}{l l2:List Nd}(h:StsI C Z i b l j (-1))(hZ:Z j)(hp:PS C j l2 j2 b2):StsI C Z i b (l++l2) j2 b2/\(b2= -1->j<j2):=by
 obtain⟨h1,h2,h3,h4,h5,h6,h7⟩:=h
 obtain⟨p1,p2,p3,p4,_,p6⟩:=hp
 have h5:=h5 rfl
 have hb0:¬0<=b:=fun h=>by have:=h6 h;omega
 obtain⟨f1,r1,hr1⟩:=zdt C .stmt j
 have hA:=p6 f1 r1 hr1
 have hstep:∀f r,rd C f .stmts j=some r->∃f',f=f'+1/\andThen (some r1) (fun ts j=>if ts.isEmpty then some (.ok [] j) else andThen (rd C f' .stmts j) fun us j=>some (.ok (ts++us) j))=some r:=by
  intro f r hr
  cases f with
  |zero=>cases hr
  |succ f=>
   simp only[rd] at hr
   cases hx:rd C f .stmt j with
   |none=>rw[hx] at hr;cases hr
   |some r2=>
    obtain rfl:=jM C hx hr1
    rw[hx] at hr
    exact⟨f,rfl,hr⟩
 have hmore:b2= -1->(∃ts,l2=flatTs ts 1/\ts≠[]/\r1= .ok ts j2/\j+nodes ts<=j2):=by
  intro hb2
  cases r1 with
  |no p=>
   simp only[noStmt,Bool.false_eq_true,if_false] at hA
   obtain⟨e,hp⟩:=hA
   omega
  |ok ts k=>
   by_cases hts:ts=[]
   ·subst hts
    simp only[noStmt,List.isEmpty_nil,if_true] at hA
    omega
   ·have he:ts.isEmpty=false:=by cases ts with
     |nil=>exact absurd rfl hts
     |cons a b=>rfl
    simp only[noStmt,he,Bool.false_eq_true,if_false] at hA
    obtain⟨rfl,_,hl⟩:=hA
    have:=rd_nodes C f1 .stmt j ts j2 hr1
    simp only[jI] at this
    exact⟨ts,hl,hts,rfl,by omega⟩
 refine⟨⟨by omega,by rw[List.length_append];omega,h3.append p3,p4,fun hb2=>?_,fun h=>absurd h hb0,fun hb=>?_⟩,fun hb2=>?_⟩
 ·obtain⟨ts,hl,_,_,hn⟩:=hmore hb2
  rw[List.length_append,hl,flat1_length]
  omega
 ·rcases h7 hb with⟨_,ts,hl,hf⟩|⟨hp0,_⟩
  ·rcases p4 with hb2|hb2
   ·obtain⟨us,hl2,hne,hr2,hn⟩:=hmore hb2
    refine .inl ⟨hb2,ts++us,by rw[hl,hl2,flatTs_append],fun f r hr=>?_⟩
    obtain⟨f',r',hr',e⟩:=hf f r hr
    obtain⟨f'',_,hx⟩:=hstep f' r' hr'
    have he:us.isEmpty=false:=by cases us with
     |nil=>exact absurd rfl hne
     |cons a b=>rfl
    subst hr2
    simp only[andThen,he,Bool.false_eq_true,if_false] at hx
    cases hy:rd C f'' .stmts j2 with
    |none=>rw[hy] at hx;cases hx
    |some r3=>
     rw[hy] at hx
     refine⟨f'',r3,hy,?_⟩
     cases r3 with
     |no p=>obtain rfl:=Option.some.inj hx;exact e
     |ok vs k=>obtain rfl:=Option.some.inj hx;rw[e];simp[ua]
   ·refine .inr ⟨hb2,fun f r hr=>?_⟩
    obtain⟨f',r',hr',e⟩:=hf f r hr
    obtain⟨f'',_,hx⟩:=hstep f' r' hr'
    cases r1 with
    |no p=>
     simp only[noStmt,Bool.false_eq_true,if_false] at hA
     obtain⟨e2,hp⟩:=hA
     obtain rfl:=Option.some.inj hx
     exact .inl (by rw[e,e2];rfl)
    |ok us k=>
     by_cases hts:us=[]
     ·subst hts
      simp only[noStmt,List.isEmpty_nil,if_true] at hA
      simp only[andThen,List.isEmpty_nil,if_true] at hx
      obtain rfl:=Option.some.inj hx
      have hk:k=j:=zgs hr1
      subst hk
      exact .inr ⟨ts++[],k,e,hA.1.symm,hZ⟩
     ·have he:us.isEmpty=false:=by cases us with
       |nil=>exact absurd rfl hts
       |cons a b=>rfl
      simp only[noStmt,he,Bool.false_eq_true,if_false] at hA
      have:=hA.2.1
      omega
  ·omega
 ·obtain⟨ts,hl,hne,_,hn⟩:=hmore hb2
  have:=gZ hne
  omega
theorem zaT{C:Ctx}{i j:Nat}{b b':Int}{l:List Nd}(v:Value)(hw:WdOk C.l)(hpl:∀k,0<=placeOf C.l C.e k)(hv:Vb b)(h:StsI C (fun j=>comesB C.l j ⟨#[125]⟩=false) (zi C i b ⟨#[123]⟩) (zn C i b ⟨#[123]⟩) l j b')(hex:0<=b'\/isP C j b' ⟨#[125]⟩=true):
 PN C .block i b (nodeL ⟨0,9,zD,0,0,placeOf C.l C.e i⟩ [(v,l)]) (zi C j b' ⟨#[125]⟩) (zn C j b' ⟨#[125]⟩):=by
 obtain⟨h1,h2,h3,h4,h5,h6,h7⟩:=h
 have g1:i<=zi C i b ⟨#[123]⟩:=ye
 have g2:j<=zi C j b' ⟨#[125]⟩:=ye
 have hok:=nodeL1_ok ⟨0,9,zD,0,0,placeOf C.l C.e i⟩ v l h3
 rcases hv with rfl|hb
 ·refine pn_of (by omega) ?_ hok (take_vb hpl h4) fun f=>?_
  ·rw[xj]
   show l.length+1<=_+1
   by_cases hc:isP C i (-1) ⟨#[123]⟩=true
   ·have e:zi C i (-1) ⟨#[123]⟩=i+1:=by unfold zi;rw[if_pos hc]
    omega
   ·have e:zn C i (-1) ⟨#[123]⟩=bad1 C i (-1):=by unfold zn;rw[if_neg hc]
    have:=h6 (by rw[e,xn];exact hpl i)
    rw[this.2.2]
    simp
  ·simp only[rd]
   refine zC (yJ hpl) (fun hb=>?_) fun hb _ _=>?_
   ·obtain⟨e1,e2,_⟩:=h6 hb
    rw[e1,e2]
    exact(zs hb).2
   ·cases hr:rd C f .stmts (zi C i (-1) ⟨#[123]⟩) with
    |none=>trivial
    |some r=>
     rcases h7 hb with⟨rfl,ts,hl,hf⟩|⟨hb',hf⟩
     ·obtain⟨f',r',hr',e⟩:=hf f r hr
      have hcl:comesB C.l j ⟨#[125]⟩=true:=by
       rcases hex with h|h
       ·omega
       ·rwa [isP_good] at h
      obtain rfl:=wh (fun f=>stmt_close hw hcl) hr'
      subst e
      simp only[ua,andThen]
      refine zC (yJ hpl) (fun _=>rfl) fun hb2 _ _=>?_
      rw[hb2,List.append_nil]
      subst hl
      exact xe (qu ⟨rfl,rfl,rfl,rfl,rfl⟩)
     ·rw[(zs hb').1,(zs hb').2]
      rcases hf f r hr with rfl|⟨ts,j',rfl,hpj,hz⟩
      ·exact⟨rfl,hb'⟩
      ·simp only[andThen,wantR,hz,Bool.false_eq_true,if_false]
       exact⟨hpj.symm,by rw[hpj];exact hb'⟩
 ·obtain⟨e1,e2⟩:=zs (C:=C) (i:=i) (s:=⟨#[123]⟩) hb
  rw[e1,e2] at h6
  obtain⟨rfl,rfl,rfl⟩:=h6 hb
  rw[(zs hb).1,(zs hb).2]
  exact zeT hb (by rw[xj];simp[bzN]) hok
theorem nodeL_ne(n:Nd)(vs:List (Value×List Nd)):nodeL n vs≠[]:=by unfold nodeL;simp
theorem ps_fol{C:Ctx}{i j:Nat}{b':Int}{l:List Nd}(h1:i<=j)(h2:l.length<=j-i+1)(h3:NtOk l)(h4:Vb b')(hl:l≠[])(h:∀f,Fol (rd C (f+1) .stmt i) (fun ts=>l=flatTs ts 1) j b'):PS C i l j b':=by
 refine⟨h1,h2,h3,h4,hl,fun f r hr=>?_⟩
 cases f with
 |zero=>cases hr
 |succ f=>
  have hA:=h f
  rw[hr] at hA
  cases r with
  |no p=>
   simp only[noStmt,Bool.false_eq_true,if_false]
   exact gC hA
  |ok ts k=>
   cases ts with
   |nil=>exact absurd hA.2.2 hl
   |cons t ts=>
    simp only[noStmt,List.isEmpty_cons,Bool.false_eq_true,if_false]
    exact gC hA
theorem nodeL3_length(n:Nd)(x y z:Value×List Nd):(nodeL n [x,y,z]).length=x.2.length+y.2.length+z.2.length+1:=by simp[nodeL,xg,xf];omega
theorem nodeL3_ok(n:Nd)(v v2 v3:Value)(l l2 l3:List Nd)(h:NtOk l)(h2:NtOk l2)(h3:NtOk l3):NtOk (nodeL n [(v,l),(v2,l2),(v3,l3)]):=jW _ _ (fun x hx=>by
 simp only[List.mem_cons,List.not_mem_nil,or_false] at hx
 rcases hx with rfl|rfl|rfl
 ·exact h
 ·exact h2
 ·exact h3)
theorem nodeL3_flat{n:Nd}{v v2 v3:Value}{ts us xs:List Tr}{k:Int}{name:ByteArray}{num op a:Int}(hn:n.kind=k/\n.name=name/\n.num=num/\n.op=op/\n.at_=a):nodeL n [(v,flatTs ts 1),(v2,flatTs us 1),(v3,flatTs xs 1)]=flatTs [zv k name num op a (ts++us++xs)] 1:=
 ki hn (by simp[xg,yC,flatTs_append])
theorem zgG{C:Ctx}{i:Nat}(hc:comesB C.l i ⟨#[105,110,112,117,116]⟩=true)(hpl:∀k,0<=placeOf C.l C.e k):PS C i (nodeL ⟨0,4,zX C (i+1) (-1),0,0,placeOf C.l C.e i⟩ []) (zi C (nameJ C (i+1) (-1)) (zE C (i+1) (-1)) ⟨#[59]⟩) (zn C (nameJ C (i+1) (-1)) (zE C (i+1) (-1)) ⟨#[59]⟩):=by
 have hn:namedB C.l i=false:=kw_named hc (by kernel_rfl)
 have g1:i+1<=nameJ C (i+1) (-1):=kX
 have g2:nameJ C (i+1) (-1)<=zi C (nameJ C (i+1) (-1)) (zE C (i+1) (-1)) ⟨#[59]⟩:=ye
 refine ps_fol (by omega) (by rw[nodeL0_length];omega) (nodeL0_ok _) (take_vb hpl (gA hpl (.inl rfl))) (nodeL_ne _ _) fun f=>?_
 simp only[rd]
 rw[if_neg (by simp[hn]),if_pos hc]
 refine zC (zhc hpl) (fun hb=>(zs hb).2) fun hb s hs=>?_
 rw[hb]
 refine zC (yJ hpl) (fun _=>rfl) fun hb2 _ _=>?_
 rw[hb2,hs]
 exact xe (yW ⟨rfl,rfl,rfl,rfl,rfl⟩)
theorem zeR{C:Ctx}{i j:Nat}{b':Int}{l:List Nd}(v:Value)(h1:comesB C.l i ⟨#[105,110,112,117,116]⟩=false)(hc:comesB C.l i ⟨#[97,115,115,101,114,116]⟩=true)(hpl:∀k,0<=placeOf C.l C.e k)(hp:PN C (.row 0) (i+1) (-1) l j b'):PS C i (nodeL ⟨0,5,zD,0,0,placeOf C.l C.e i⟩ [(v,l)]) (zi C j b' ⟨#[59]⟩) (zn C j b' ⟨#[59]⟩):=by
 have hn:namedB C.l i=false:=kw_named hc (by kernel_rfl)
 have g1:=hp.1
 have g2:=hp.2.1
 simp only[bzN] at g2
 have g3:j<=zi C j b' ⟨#[59]⟩:=ye
 refine ps_fol (by omega) (by rw[xj];simp only;omega) (nodeL1_ok _ _ _ hp.2.2.1) (take_vb hpl hp.2.2.2.1) (nodeL_ne _ _) fun f=>?_
 simp only[rd]
 rw[if_neg (by simp[hn]),if_neg (by simp[h1]),if_pos hc]
 refine zC (hp.fol f) (fun hb=>(zs hb).2) fun hb ts hl=>?_
 rw[hb]
 refine zC (yJ hpl) (fun _=>rfl) fun hb2 _ _=>?_
 rw[hb2]
 subst hl
 exact xe (qu ⟨rfl,rfl,rfl,rfl,rfl⟩)
theorem zig{C:Ctx}{i:Nat}(h1:comesB C.l i ⟨#[105,110,112,117,116]⟩=false)(h2:comesB C.l i ⟨#[97,115,115,101,114,116]⟩=false)(hc:comesB C.l i ⟨#[115,107,105,112]⟩=true)(hpl:∀k,0<=placeOf C.l C.e k):PS C i (nodeL ⟨0,6,zD,0,0,placeOf C.l C.e i⟩ []) (zi C (i+1) (-1) ⟨#[59]⟩) (zn C (i+1) (-1) ⟨#[59]⟩):=by
 have hn:namedB C.l i=false:=kw_named hc (by kernel_rfl)
 have g3:i+1<=zi C (i+1) (-1) ⟨#[59]⟩:=ye
 refine ps_fol (by omega) (by rw[nodeL0_length];omega) (nodeL0_ok _) (take_vb hpl (.inl rfl)) (nodeL_ne _ _) fun f=>?_
 simp only[rd]
 rw[if_neg (by simp[hn]),if_neg (by simp[h1]),if_neg (by simp[h2]),if_pos hc]
 refine zC (yJ hpl) (fun _=>rfl) fun hb2 _ _=>?_
 rw[hb2]
 exact xe (yW ⟨rfl,rfl,rfl,rfl,rfl⟩)
theorem zgE{C:Ctx}{i j j2:Nat}{b' b2:Int}{l l2:List Nd}(v v2:Value)(hc:comesB C.l i ⟨#[119,104,105,108,101]⟩=true)(hpl:∀k,0<=placeOf C.l C.e k)(hp:PN C (.row 0) (i+1) (-1) l j b')(hq:PN C .block j b' l2 j2 b2):PS C i (nodeL ⟨0,8,zD,0,0,placeOf C.l C.e i⟩ [(v,l),(v2,l2)]) j2 b2:=by
 have hn:namedB C.l i=false:=kw_named hc (by kernel_rfl)
 have h1:comesB C.l i ⟨#[105,110,112,117,116]⟩=false:=yY hc (by kernel_rfl)
 have h2:comesB C.l i ⟨#[97,115,115,101,114,116]⟩=false:=yY hc (by kernel_rfl)
 have h3:comesB C.l i ⟨#[115,107,105,112]⟩=false:=yY hc (by kernel_rfl)
 have h4:comesB C.l i ⟨#[105,102]⟩=false:=yY hc (by kernel_rfl)
 have g1:=hp.1
 have g2:=hp.2.1
 have k1:=hq.1
 have k2:=hq.2.1
 simp only[bzN] at g2 k2
 refine ps_fol (by omega) (by rw[qz];simp only;omega) (kj _ _ _ _ _ hp.2.2.1 hq.2.2.1) hq.2.2.2.1 (nodeL_ne _ _) fun f=>?_
 simp only[rd]
 rw[if_neg (by simp[hn]),if_neg (by simp[h1]),if_neg (by simp[h2]),if_neg (by simp[h3]),if_neg (by simp[h4]),if_pos hc]
 refine zC (hp.fol f) (fun hb=>(hq.2.2.2.2.1 hb).2) fun hb ts hl=>?_
 rw[hb] at hq
 refine zC (hq.fol f) (fun _=>rfl) fun hb2 us hl2=>?_
 rw[hb2]
 subst hl hl2
 exact xe (nodeL2_flat ⟨rfl,rfl,rfl,rfl,rfl⟩)
theorem zjZ{C:Ctx}{i j j2:Nat}{b' b2:Int}{l l2:List Nd}(v v2:Value)(h1:comesB C.l i ⟨#[105,110,112,117,116]⟩=false)(h2:comesB C.l i ⟨#[97,115,115,101,114,116]⟩=false)(h3:comesB C.l i ⟨#[115,107,105,112]⟩=false)(hc:comesB C.l i ⟨#[105,102]⟩=true)(hpl:∀k,0<=placeOf C.l C.e k)(hp:PN C (.row 0) (i+1) (-1) l j b')(hq:PN C .block j b' l2 j2 b2)(he:isP C j2 b2 ⟨#[101,108,115,101]⟩=false):PS C i (nodeL ⟨0,7,zD,0,0,placeOf C.l C.e i⟩ [(v,l),(v2,l2)]) j2 b2:=by
 have hn:namedB C.l i=false:=kw_named hc (by kernel_rfl)
 have g1:=hp.1
 have g2:=hp.2.1
 have k1:=hq.1
 have k2:=hq.2.1
 simp only[bzN] at g2 k2
 refine ps_fol (by omega) (by rw[qz];simp only;omega) (kj _ _ _ _ _ hp.2.2.1 hq.2.2.1) hq.2.2.2.1 (nodeL_ne _ _) fun f=>?_
 simp only[rd]
 rw[if_neg (by simp[hn]),if_neg (by simp[h1]),if_neg (by simp[h2]),if_neg (by simp[h3]),if_pos hc]
 refine zC (hp.fol f) (fun hb=>(hq.2.2.2.2.1 hb).2) fun hb ts hl=>?_
 rw[hb] at hq
 refine zC (hq.fol f) (fun _=>rfl) fun hb2 us hl2=>?_
 rw[hb2,isP_good] at he
 rw[hb2,if_neg (by simp[he])]
 subst hl hl2
 exact xe (nodeL2_flat ⟨rfl,rfl,rfl,rfl,rfl⟩)
theorem zeP{C:Ctx}{i j j2 j3:Nat}{b' b2 b3:Int}{l l2 l3:List Nd}(v v2 v3:Value)(h1:comesB C.l i ⟨#[105,110,112,117,116]⟩=false)(h2:comesB C.l i ⟨#[97,115,115,101,114,116]⟩=false)(h3:comesB C.l i ⟨#[115,107,105,112]⟩=false)(hc:comesB C.l i ⟨#[105,102]⟩=true)(hpl:∀k,0<=placeOf C.l C.e k)(hp:PN C (.row 0) (i+1) (-1) l j b')(hq:PN C .block j b' l2 j2 b2)(he:isP C j2 b2 ⟨#[101,108,115,101]⟩=true)(hs:PN C .block (j2+1) b2 l3 j3 b3):PS C i (nodeL ⟨0,7,zD,0,0,placeOf C.l C.e i⟩ [(v,l),(v2,l2),(v3,l3)]) j3 b3:=by
 have hn:namedB C.l i=false:=kw_named hc (by kernel_rfl)
 have g1:=hp.1
 have g2:=hp.2.1
 have k1:=hq.1
 have k2:=hq.2.1
 have m1:=hs.1
 have m2:=hs.2.1
 simp only[bzN] at g2 k2 m2
 have hb20:=(isP_lt he).2
 have hb2:b2= -1:=by rcases hq.2.2.2.1 with h|h<;>omega
 refine ps_fol (by omega) (by rw[nodeL3_length];simp only;omega) (nodeL3_ok _ _ _ _ _ _ _ hp.2.2.1 hq.2.2.1 hs.2.2.1) hs.2.2.2.1 (nodeL_ne _ _) fun f=>?_
 simp only[rd]
 rw[if_neg (by simp[hn]),if_neg (by simp[h1]),if_neg (by simp[h2]),if_neg (by simp[h3]),if_pos hc]
 refine zC (hp.fol f) (fun hb=>by have:=(hq.2.2.2.2.1 hb).2;omega) fun hb ts hl=>?_
 rw[hb] at hq
 refine zC (hq.fol f) (fun hb=>by omega) fun _ us hl2=>?_
 rw[hb2,isP_good] at he
 rw[if_pos he]
 rw[hb2] at hs
 refine zC (hs.fol f) (fun _=>rfl) fun hb3 xs hl3=>?_
 rw[hb3]
 subst hl hl2 hl3
 exact xe (nodeL3_flat ⟨rfl,rfl,rfl,rfl,rfl⟩)
theorem zgF{C:Ctx}{i j j3:Nat}{b' b3:Int}{l l2:List Nd}(v v2:Value)(hn:namedB C.l i=true)(hc:comesB C.l (i+1) ⟨#[91]⟩=true)(hpl:∀k,0<=placeOf C.l C.e k)(hp:PN C (.row 0) (i+1+1) (-1) l j b')
 (hq:PN C (.row 0) (zi C (zi C j b' ⟨#[93]⟩) (zn C j b' ⟨#[93]⟩) ⟨#[58,61]⟩) (zn C (zi C j b' ⟨#[93]⟩) (zn C j b' ⟨#[93]⟩) ⟨#[58,61]⟩) l2 j3 b3):PS C i (nodeL ⟨0,3,textAt C.l i,0,0,placeOf C.l C.e i⟩ [(v,l),(v2,l2)]) (zi C j3 b3 ⟨#[59]⟩) (zn C j3 b3 ⟨#[59]⟩):=by
 have g1:=hp.1
 have g2:=hp.2.1
 have k1:=hq.1
 have k2:=hq.2.1
 simp only[bzN] at g2 k2
 have t1:j<=zi C j b' ⟨#[93]⟩:=ye
 have t2:zi C j b' ⟨#[93]⟩<=zi C (zi C j b' ⟨#[93]⟩) (zn C j b' ⟨#[93]⟩) ⟨#[58,61]⟩:=ye
 have t3:j3<=zi C j3 b3 ⟨#[59]⟩:=ye
 refine ps_fol (by omega) (by rw[qz];simp only;omega) (kj _ _ _ _ _ hp.2.2.1 hq.2.2.1) (take_vb hpl hq.2.2.2.1) (nodeL_ne _ _) fun f=>?_
 simp only[rd]
 rw[if_pos hn,if_pos hc]
 refine zC (hp.fol f) (fun hb=>?_) fun hb ts hl=>?_
 ·have e1:=(zs (C:=C) (i:=j) (s:=⟨#[93]⟩) hb).2
  rw[e1] at hq
  have e2:=(zs (C:=C) (i:=zi C j b' ⟨#[93]⟩) (s:=⟨#[58,61]⟩) hb).2
  rw[e2] at hq
  have e3:=(hq.2.2.2.2.1 hb).2
  rw[e3]
  exact(zs hb).2
 rw[hb] at hq
 refine zC (yJ hpl) (fun hb=>?_) fun hb2 _ _=>?_
 ·have e2:=(zs (C:=C) (i:=zi C j (-1) ⟨#[93]⟩) (s:=⟨#[58,61]⟩) hb).2
  rw[e2] at hq
  have e3:=(hq.2.2.2.2.1 hb).2
  rw[e3]
  exact(zs hb).2
 rw[hb2] at hq
 refine zC (yJ hpl) (fun hb=>?_) fun hb3 _ _=>?_
 ·have e3:=(hq.2.2.2.2.1 hb).2
  rw[e3]
  exact(zs hb).2
 rw[hb3] at hq
 refine zC (hq.fol f) (fun hb=>(zs hb).2) fun hb4 us hl2=>?_
 rw[hb4]
 refine zC (yJ hpl) (fun _=>rfl) fun hb5 _ _=>?_
 rw[hb5]
 subst hl hl2
 exact xe (nodeL2_flat ⟨rfl,rfl,rfl,rfl,rfl⟩)
theorem zeQ{C:Ctx}{i j:Nat}{b':Int}{l:List Nd}(v:Value)(h1:comesB C.l i ⟨#[105,110,112,117,116]⟩=false)(h2:comesB C.l i ⟨#[97,115,115,101,114,116]⟩=false)(h3:comesB C.l i ⟨#[115,107,105,112]⟩=false)(h4:comesB C.l i ⟨#[119,104,105,108,101]⟩=false)(h5:comesB C.l i ⟨#[105,102]⟩=false)(hc:isP C (nameJ C i (-1)) (zE C i (-1)) ⟨#[91]⟩=false)(hpl:∀k,0<=placeOf C.l C.e k)
 (hq:PN C (.row 0) (zi C (nameJ C i (-1)) (zE C i (-1)) ⟨#[58,61]⟩) (zn C (nameJ C i (-1)) (zE C i (-1)) ⟨#[58,61]⟩) l j b'):PS C i (nodeL ⟨0,2,zX C i (-1),0,0,placeOf C.l C.e i⟩ [(v,l)]) (zi C j b' ⟨#[59]⟩) (zn C j b' ⟨#[59]⟩):=by
 have k1:=hq.1
 have k2:=hq.2.1
 simp only[bzN] at k2
 have t1:i<=nameJ C i (-1):=kX
 have t2:nameJ C i (-1)<=zi C (nameJ C i (-1)) (zE C i (-1)) ⟨#[58,61]⟩:=ye
 have t3:j<=zi C j b' ⟨#[59]⟩:=ye
 have hlen:(nodeL ⟨0,2,zX C i (-1),0,0,placeOf C.l C.e i⟩ [(v,l)]).length<=zi C j b' ⟨#[59]⟩-i+1:=by rw[xj];simp only;omega
 cases hn:namedB C.l i with
 |true=>
  obtain⟨e1,e2,e3⟩:=qF hn
  rw[e1,e2] at hq hc
  rw[isP_good] at hc
  refine ps_fol (by omega) hlen (nodeL1_ok _ _ _ hq.2.2.1) (take_vb hpl hq.2.2.2.1) (nodeL_ne _ _) fun f=>?_
  simp only[rd]
  rw[if_pos hn,if_neg (by simp[hc])]
  refine zC (yJ hpl) (fun hb=>?_) fun hb3 _ _=>?_
  ·have e3:=(hq.2.2.2.2.1 hb).2
   rw[e3]
   exact(zs hb).2
  rw[hb3] at hq
  refine zC (hq.fol f) (fun hb=>(zs hb).2) fun hb4 us hl2=>?_
  rw[hb4]
  refine zC (yJ hpl) (fun _=>rfl) fun hb5 _ _=>?_
  rw[hb5,e3]
  subst hl2
  exact xe (qu ⟨rfl,rfl,rfl,rfl,rfl⟩)
 |false=>
  obtain⟨e1,e2⟩:=za3 hn
  have hb:0<=zE C i (-1):=by rw[e2];exact hpl i
  refine⟨by omega,hlen,nodeL1_ok _ _ _ hq.2.2.1,take_vb hpl hq.2.2.2.1,nodeL_ne _ _,fun f r hr=>?_⟩
  cases f with
  |zero=>cases hr
  |succ f=>
   simp only[rd] at hr
   rw[if_neg (by simp[hn]),if_neg (by simp[h1]),if_neg (by simp[h2]),if_neg (by simp[h3]),if_neg (by simp[h5]),if_neg (by simp[h4])] at hr
   obtain rfl:=Option.some.inj hr
   simp only[noStmt,List.isEmpty_nil,if_true]
   rw[(zs (C:=C) (s:=⟨#[58,61]⟩) hb).2] at hq
   have e3:=(hq.2.2.2.2.1 hb).2
   rw[e3,(zs hb).2,e2]
   exact⟨rfl,hpl i⟩
theorem want_cases{C:Ctx}{s:ByteArray}{i:Nat}(hpl:∀k,0<=placeOf C.l C.e k):(zn C i (-1) s= -1/\zi C i (-1) s=i+1/\wantR C s i=some (.ok () (i+1)))\/(0<=zn C i (-1) s/\wantR C s i=some (.no (zn C i (-1) s))):=by
 unfold wantR zi zn
 rw[isP_good]
 cases comesB C.l i s with
 |true=>exact .inl ⟨rfl,rfl,rfl⟩
 |false=>
  rw[if_neg (by simp),if_neg (by simp),xn]
  exact .inr ⟨hpl i,rfl⟩
theorem name_cases{C:Ctx}{i:Nat}(hpl:∀k,0<=placeOf C.l C.e k):(zE C i (-1)= -1/\nameJ C i (-1)=i+1/\z7 C i=some (.ok (zX C i (-1)) (i+1)))\/(0<=zE C i (-1)/\z7 C i=some (.no (zE C i (-1)))):=by
 unfold z7 nameJ zE zX
 rw[yX]
 cases namedB C.l i with
 |true=>exact .inl ⟨rfl,rfl,rfl⟩
 |false=>
  rw[if_neg (by simp),if_neg (by simp),xn]
  exact .inr ⟨hpl i,rfl⟩
def numP(C:Ctx)(i:Nat)(b:Int):Bool:=decide (b<0)&&numbB C.l i
def numJ(C:Ctx)(i:Nat)(b:Int):Nat:=if numP C i b then i+1 else i
def numB(C:Ctx)(i:Nat)(b:Int):Int:=if numP C i b then b else bad1 C i b
def numN(C:Ctx)(i:Nat)(b:Int):Int:=if numP C i b then numAtT C.l i else 0
theorem ze0{C:Ctx}{i:Nat}:numP C i (-1)=numbB C.l i:=by unfold numP;simp
theorem zgT{C:Ctx}{i:Nat}{b:Int}(h:0<=b):numP C i b=false:=by unfold numP;rw[decide_eq_false (by omega)];rfl
theorem zis{C:Ctx}{i:Nat}{b:Int}:i<=numJ C i b:=by unfold numJ;split<;>omega
theorem zgS{C:Ctx}{i:Nat}{b:Int}(h:0<=b):numJ C i b=i/\numB C i b=b:=by
 unfold numJ numB
 rw[zgT h,if_neg (by simp),if_neg (by simp)]
 exact⟨rfl,uW h⟩
theorem zjp{C:Ctx}{i:Nat}{b:Int}(hpl:∀k,0<=placeOf C.l C.e k)(h:Vb b):Vb (numB C i b):=by
 unfold numB
 split
 ·exact h
 ·exact uV hpl
theorem num_cases{C:Ctx}{i:Nat}(hpl:∀k,0<=placeOf C.l C.e k):(numB C i (-1)= -1/\numJ C i (-1)=i+1/\zL C i=some (.ok (numN C i (-1)) (i+1)))\/(0<=numB C i (-1)/\zL C i=some (.no (numB C i (-1)))):=by
 unfold zL numJ numB numN
 rw[ze0]
 cases numbB C.l i with
 |true=>exact .inl ⟨rfl,rfl,rfl⟩
 |false=>
  rw[if_neg (by simp),if_neg (by simp),xn]
  exact .inr ⟨hpl i,rfl⟩
def PD(C:Ctx)(i:Nat)(l:List Nd)(j:Nat)(b':Int):Prop:=
 i<j/\l.length=1/\NtOk l/\Vb b'/\∃t,∀f,(b'= -1->l=flatTs [t] 1/\rd C (f+1) .prog i=andThen (rd C f .prog j) fun us k=>some (.ok (t::us) k))/\(0<=b'->rd C (f+1) .prog i=some (.no b'))
theorem zjn{C:Ctx}{i:Nat}(hc:comesB C.l i ⟨#[118,97,114]⟩=true)(hpl:∀k,0<=placeOf C.l C.e k):PD C i (nodeL ⟨0,0,zX C (i+1) (-1),0,0,placeOf C.l C.e i⟩ []) (zi C (nameJ C (i+1) (-1)) (zE C (i+1) (-1)) ⟨#[59]⟩) (zn C (nameJ C (i+1) (-1)) (zE C (i+1) (-1)) ⟨#[59]⟩):=by
 have g1:i+1<=nameJ C (i+1) (-1):=kX
 have g2:nameJ C (i+1) (-1)<=zi C (nameJ C (i+1) (-1)) (zE C (i+1) (-1)) ⟨#[59]⟩:=ye
 refine⟨by omega,nodeL0_length _,nodeL0_ok _,take_vb hpl (gA hpl (.inl rfl)),zv 0 (zX C (i+1) (-1)) 0 0 (placeOf C.l C.e i) [],fun f=>?_⟩
 simp only[rd]
 rw[if_pos hc]
 rcases name_cases (i:=i+1) hpl with⟨e1,e2,e3⟩|⟨e1,e2⟩
 ·rw[e1,e2,e3]
  simp only[andThen]
  rcases want_cases (s:=⟨#[59]⟩) (i:=i+1+1) hpl with⟨w1,w2,w3⟩|⟨w1,w2⟩
  ·rw[w1,w2,w3]
   exact⟨fun _=>⟨yW ⟨rfl,rfl,rfl,rfl,rfl⟩,rfl⟩,fun h=>by omega⟩
  ·rw[w2]
   exact⟨fun h=>by omega,fun _=>rfl⟩
 ·rw[(zs e1).2,e2]
  exact⟨fun h=>by omega,fun _=>rfl⟩
theorem zgN{C:Ctx}{i:Nat}(hn:comesB C.l i ⟨#[118,97,114]⟩=false)(hc:comesB C.l i ⟨#[97,114,114,97,121]⟩=true)(hpl:∀k,0<=placeOf C.l C.e k){j1 j2 j3 j4 j5:Nat}{b1 b2 b3 b4 b5:Int}(h1:nameJ C (i+1) (-1)=j1/\zE C (i+1) (-1)=b1)(h2:zi C j1 b1 ⟨#[91]⟩=j2/\zn C j1 b1 ⟨#[91]⟩=b2)(h3:numJ C j2 b2=j3/\numB C j2 b2=b3)(h4:zi C j3 b3 ⟨#[93]⟩=j4/\zn C j3 b3 ⟨#[93]⟩=b4)(h5:zi C j4 b4 ⟨#[59]⟩=j5/\zn C j4 b4 ⟨#[59]⟩=b5):
 PD C i (nodeL ⟨0,1,zX C (i+1) (-1),numN C j2 b2,0,placeOf C.l C.e i⟩ []) j5 b5:=by
 have g1:i+1<=j1:=by rw[<-h1.1];exact kX
 have g2:j1<=j2:=by rw[<-h2.1];exact ye
 have g3:j2<=j3:=by rw[<-h3.1];exact zis
 have g4:j3<=j4:=by rw[<-h4.1];exact ye
 have g5:j4<=j5:=by rw[<-h5.1];exact ye
 have v1:Vb b1:=by rw[<-h1.2];exact gA hpl (.inl rfl)
 have v2:Vb b2:=by rw[<-h2.2];exact take_vb hpl v1
 have v3:Vb b3:=by rw[<-h3.2];exact zjp hpl v2
 have v4:Vb b4:=by rw[<-h4.2];exact take_vb hpl v3
 have v5:Vb b5:=by rw[<-h5.2];exact take_vb hpl v4
 have s1:0<=b1->b2=b1:=fun h=>by rw[<-h2.2];exact(zs h).2
 have s2:0<=b2->b3=b2:=fun h=>by rw[<-h3.2];exact(zgS h).2
 have s3:0<=b3->b4=b3:=fun h=>by rw[<-h4.2];exact(zs h).2
 have s4:0<=b4->b5=b4:=fun h=>by rw[<-h5.2];exact(zs h).2
 refine⟨by omega,nodeL0_length _,nodeL0_ok _,v5,zv 1 (zX C (i+1) (-1)) (numN C j2 b2) 0 (placeOf C.l C.e i) [],fun f=>?_⟩
 simp only[rd]
 rw[if_neg (by simp[hn]),if_pos hc]
 rcases name_cases (i:=i+1) hpl with⟨e1,e2,e3⟩|⟨e1,e2⟩
 ·obtain rfl:b1= -1:=by rw[<-h1.2,e1]
  obtain rfl:j1=i+1+1:=by rw[<-h1.1,e2]
  rw[e3]
  simp only[andThen]
  rcases want_cases (s:=⟨#[91]⟩) (i:=i+1+1) hpl with⟨w1,w2,w3⟩|⟨w1,w2⟩
  ·obtain rfl:b2= -1:=by rw[<-h2.2,w1]
   obtain rfl:j2=i+1+1+1:=by rw[<-h2.1,w2]
   rw[w3]
   simp only
   rcases num_cases (i:=i+1+1+1) hpl with⟨u1,u2,u3⟩|⟨u1,u2⟩
   ·obtain rfl:b3= -1:=by rw[<-h3.2,u1]
    obtain rfl:j3=i+1+1+1+1:=by rw[<-h3.1,u2]
    rw[u3]
    simp only
    rcases want_cases (s:=⟨#[93]⟩) (i:=i+1+1+1+1) hpl with⟨w1,w2,w3⟩|⟨w1,w2⟩
    ·obtain rfl:b4= -1:=by rw[<-h4.2,w1]
     obtain rfl:j4=i+1+1+1+1+1:=by rw[<-h4.1,w2]
     rw[w3]
     simp only
     rcases want_cases (s:=⟨#[59]⟩) (i:=i+1+1+1+1+1) hpl with⟨w1,w2,w3⟩|⟨w1,w2⟩
     ·obtain rfl:b5= -1:=by rw[<-h5.2,w1]
      obtain rfl:j5=i+1+1+1+1+1+1:=by rw[<-h5.1,w2]
      rw[w3]
      exact⟨fun _=>⟨yW ⟨rfl,rfl,rfl,rfl,rfl⟩,rfl⟩,fun h=>by omega⟩
     ·rw[w2,h5.2]
      rw[h5.2] at w1
      exact⟨fun h=>by omega,fun _=>rfl⟩
    ·rw[w2,h4.2]
     rw[h4.2] at w1
     have:=s4 w1
     exact⟨fun h=>by omega,fun _=>by rw[this]⟩
   ·rw[u2,h3.2]
    rw[h3.2] at u1
    have a3:=s3 u1
    have a4:=s4 (by omega)
    exact⟨fun h=>by omega,fun _=>by rw[a4,a3]⟩
  ·rw[w2,h2.2]
   rw[h2.2] at w1
   have a2:=s2 w1
   have a3:=s3 (by omega)
   have a4:=s4 (by omega)
   exact⟨fun h=>by omega,fun _=>by rw[a4,a3,a2]⟩
 ·rw[e2,h1.2]
  rw[h1.2] at e1
  have a1:=s1 e1
  have a2:=s2 (by omega)
  have a3:=s3 (by omega)
  have a4:=s4 (by omega)
  exact⟨fun h=>by omega,fun _=>by simp only[andThen];rw[a4,a3,a2,a1]⟩
def DclI(C:Ctx)(l:List Nd)(j:Nat)(b':Int):Prop:=
 l.length<=j/\NtOk l/\Vb b'/\((b'= -1/\∃ts,l=flatTs ts 1/\∀f r,rd C f .prog 0=some r->∃f' r',rd C f' .prog j=some r'/\r=ua ts r')\/(0<=b'/\∀f r,rd C f .prog 0=some r->r= .no b'))
theorem zd2{C:Ctx}:DclI C [] 0 (-1):=⟨by simp, .nil, .inl rfl, .inl ⟨rfl,[],rfl,fun f r hr=>⟨f,r,hr,by cases r<;>rfl⟩⟩⟩
theorem dclI_next{C:Ctx}{l l2:List Nd}{j j2:Nat}{b2:Int}(h:DclI C l j (-1))(hp:PD C j l2 j2 b2):DclI C (l++l2) j2 b2:=by
 obtain⟨h1,h2,h3,h4⟩:=h
 obtain⟨p1,p2,p3,p4,t,p5⟩:=hp
 refine⟨by rw[List.length_append];omega,h2.append p3,p4,?_⟩
 rcases h4 with⟨_,ts,hl,hf⟩|⟨hp0,_⟩
 ·rcases p4 with hb|hb
  ·have hl0:=((p5 0).1 hb).1
   refine .inl ⟨hb,ts++[t],by rw[hl,hl0,flatTs_append],fun f r hr=>?_⟩
   obtain⟨f',r',hr',e⟩:=hf f r hr
   cases f' with
   |zero=>cases hr'
   |succ f'=>
    have he:=((p5 f').1 hb).2
    rw[he] at hr'
    cases hx:rd C f' .prog j2 with
    |none=>rw[hx] at hr';cases hr'
    |some r2=>
     rw[hx] at hr'
     refine⟨f',r2,hx,?_⟩
     cases r2 with
     |no p=>obtain rfl:=Option.some.inj hr';exact e
     |ok us k=>obtain rfl:=Option.some.inj hr';rw[e];simp[ua]
  ·refine .inr ⟨hb,fun f r hr=>?_⟩
   obtain⟨f',r',hr',e⟩:=hf f r hr
   cases f' with
   |zero=>cases hr'
   |succ f'=>
    rw[(p5 f').2 hb] at hr'
    obtain rfl:=Option.some.inj hr'
    exact e
 ·omega
theorem zaQ{C:Ctx}{l l2:List Nd}{j j2:Nat}{b b2:Int}(h:DclI C l j b)(hn:b= -1->comesB C.l j ⟨#[118,97,114]⟩=false/\comesB C.l j ⟨#[97,114,114,97,121]⟩=false)(hs:StsI C (fun k=>k<C.l.length) j b l2 j2 b2)(hex:0<=b2\/C.l.length<=j2):
 (l++l2).length<=j2+1/\Vb b2/\∀f r,rd C f .prog 0=some r->(b2= -1->∃ts k,r= .ok ts k/\l++l2=flatTs ts 1)/\(0<=b2->r= .no b2):=by
 obtain⟨h1,h2,h3,h4⟩:=h
 obtain⟨s1,s2,s3,s4,s5,s6,s7⟩:=hs
 refine⟨by rw[List.length_append];omega,s4,fun f r hr=>?_⟩
 rcases h4 with⟨hb,ts,hl,hf⟩|⟨hb,hf⟩
 ·obtain⟨n1,n2⟩:=hn hb
  obtain⟨f',r',hr',e⟩:=hf f r hr
  cases f' with
  |zero=>cases hr'
  |succ f'=>
   simp only[rd] at hr'
   rw[if_neg (by simp[n1]),if_neg (by simp[n2])] at hr'
   cases hx:rd C f' .stmts j with
   |none=>rw[hx] at hr';cases hr'
   |some r2=>
    rw[hx] at hr'
    rcases s7 hb with⟨rfl,us,hl2,hf2⟩|⟨hb2,hf2⟩
    ·obtain⟨f3,r3,hr3,e3⟩:=hf2 f' r2 hx
     have hj:C.l.length<=j2:=by rcases hex with h|h<;>omega
     obtain rfl:=wh (fun f=>zgt hj) hr3
     subst e3
     simp only[ua,andThen] at hr'
     rw[if_neg (by omega)] at hr'
     obtain rfl:=Option.some.inj hr'
     refine⟨fun _=>⟨ts++(us++[]),j2,e,by rw[hl,hl2,List.append_nil,flatTs_append]⟩,fun h=>by omega⟩
    ·refine⟨fun h=>by omega,fun _=>?_⟩
     rcases hf2 f' r2 hx with rfl|⟨us,k,rfl,hk,hz⟩
     ·obtain rfl:=Option.some.inj hr'
      exact e
     ·simp only[andThen] at hr'
      rw[if_pos hz] at hr'
      obtain rfl:=Option.some.inj hr'
      rw[e,hk]
      rfl
 ·obtain⟨rfl,rfl,rfl⟩:=s6 hb
  exact⟨fun h=>by omega,fun _=>hf f r hr⟩
end Go.Proofs.YtonmcakdofbjiaaGreatDoor
