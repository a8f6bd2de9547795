/- A part. -/
import Derived.Test.YtonmcakdofbjiaaGreatDoorK21
import Derived.StillTailTactics
import Derived.Deep.Cut
import Derived.Deep.LoopGhost
import Derived.Test.YtonmcakdofbjiaaGreatDoorK19
set_option linter.all false
set_option maxRecDepth 100000
set_option maxHeartbeats 8000000
namespace Go.Proofs.YtonmcakdofbjiaaGreatDoor
open Go.RowKit
theorem nodeL_ne(n:Nd)(vs:List (Value×List Nd)):nodeL n vs≠[]:=by unfold nodeL;simp
theorem ps_fol{C:Ctx}{i j:Nat}{b':Int}{l:List Nd}(h1:i<=j)(h2:l.length<=j-i+1)(h3:NtOk l)(h4:Vb b')(hl:l≠[])(h:∀f,Fol (rd C (f+1) .stmt i) (fun ts=>l=flatTs ts 1) j b'):PS C i l j b':=by
 refine⟨h1,h2,h3,h4,hl,fun f r hr=>?_⟩
 cases f with
 |zero=>cases hr
 |succ f=>
  have hA:=h f
  rw[hr] at hA
  cases r with
  |no p=>
   simp only[noStmt,Bool.false_eq_true,if_false]
   exact gC hA
  |ok ts k=>
   cases ts with
   |nil=>exact absurd hA.2.2 hl
   |cons t ts=>
    simp only[noStmt,List.isEmpty_cons,Bool.false_eq_true,if_false]
    exact gC hA
theorem nodeL3_length(n:Nd)(x y z:Value×List Nd):(nodeL n [x,y,z]).length=x.2.length+y.2.length+z.2.length+1:=by simp[nodeL,xk,xh];omega
theorem nodeL3_ok(n:Nd)(v v2 v3:Value)(l l2 l3:List Nd)(h:NtOk l)(h2:NtOk l2)(h3:NtOk l3):NtOk (nodeL n [(v,l),(v2,l2),(v3,l3)]):=j7 _ _ (fun x hx=>by
 simp only[List.mem_cons,List.not_mem_nil,or_false] at hx
 rcases hx with rfl|rfl|rfl
 ·exact h
 ·exact h2
 ·exact h3)
theorem nodeL3_flat{n:Nd}{v v2 v3:Value}{ts us xs:List Tr}{k:Int}{name:ByteArray}{num op a:Int}(hn:n.kind=k/\n.name=name/\n.num=num/\n.op=op/\n.at_=a):nodeL n [(v,flatTs ts 1),(v2,flatTs us 1),(v3,flatTs xs 1)]=flatTs [zJ k name num op a (ts++us++xs)] 1:=
 km hn (by simp[xk,jq,zY])
theorem zgO{C:Ctx}{i:Nat}(hc:comesB C.l i ⟨#[105,110,112,117,116]⟩=true)(hpl:∀k,0<=placeOf C.l C.e k):PS C i (nodeL ⟨0,4,zV C (i+1) (-1),0,0,placeOf C.l C.e i⟩ []) (zk C (nameJ C (i+1) (-1)) (zD C (i+1) (-1)) ⟨#[59]⟩) (zn C (nameJ C (i+1) (-1)) (zD C (i+1) (-1)) ⟨#[59]⟩):=by
 have hn:namedB C.l i=false:=kw_named hc (by kernel_rfl)
 have g1:i+1<=nameJ C (i+1) (-1):=ve
 have g2:nameJ C (i+1) (-1)<=zk C (nameJ C (i+1) (-1)) (zD C (i+1) (-1)) ⟨#[59]⟩:=z7
 refine ps_fol (by omega) (by rw[nodeL0_length];omega) (nodeL0_ok _) (take_vb hpl (gA hpl (.inl rfl))) (nodeL_ne _ _) fun f=>?_
 simp only[rd]
 rw[if_neg (by simp[hn]),if_pos hc]
 refine zB (zho hpl) (fun hb=>(zt hb).2) fun hb s hs=>?_
 rw[hb]
 refine zB (yI hpl) (fun _=>rfl) fun hb2 _ _=>?_
 rw[hb2,hs]
 exact xg (yV ⟨rfl,rfl,rfl,rfl,rfl⟩)
theorem zeR{C:Ctx}{i j:Nat}{b':Int}{l:List Nd}(v:Value)(h1:comesB C.l i ⟨#[105,110,112,117,116]⟩=false)(hc:comesB C.l i ⟨#[97,115,115,101,114,116]⟩=true)(hpl:∀k,0<=placeOf C.l C.e k)(hp:PN C (.row 0) (i+1) (-1) l j b'):PS C i (nodeL ⟨0,5,zL,0,0,placeOf C.l C.e i⟩ [(v,l)]) (zk C j b' ⟨#[59]⟩) (zn C j b' ⟨#[59]⟩):=by
 have hn:namedB C.l i=false:=kw_named hc (by kernel_rfl)
 have g1:=hp.1
 have g2:=hp.2.1
 simp only[bzN] at g2
 have g3:j<=zk C j b' ⟨#[59]⟩:=z7
 refine ps_fol (by omega) (by rw[xm];simp only;omega) (nodeL1_ok _ _ _ hp.2.2.1) (take_vb hpl hp.2.2.2.1) (nodeL_ne _ _) fun f=>?_
 simp only[rd]
 rw[if_neg (by simp[hn]),if_neg (by simp[h1]),if_pos hc]
 refine zB (hp.fol f) (fun hb=>(zt hb).2) fun hb ts hl=>?_
 rw[hb]
 refine zB (yI hpl) (fun _=>rfl) fun hb2 _ _=>?_
 rw[hb2]
 subst hl
 exact xg (qB ⟨rfl,rfl,rfl,rfl,rfl⟩)
theorem zit{C:Ctx}{i:Nat}(h1:comesB C.l i ⟨#[105,110,112,117,116]⟩=false)(h2:comesB C.l i ⟨#[97,115,115,101,114,116]⟩=false)(hc:comesB C.l i ⟨#[115,107,105,112]⟩=true)(hpl:∀k,0<=placeOf C.l C.e k):PS C i (nodeL ⟨0,6,zL,0,0,placeOf C.l C.e i⟩ []) (zk C (i+1) (-1) ⟨#[59]⟩) (zn C (i+1) (-1) ⟨#[59]⟩):=by
 have hn:namedB C.l i=false:=kw_named hc (by kernel_rfl)
 have g3:i+1<=zk C (i+1) (-1) ⟨#[59]⟩:=z7
 refine ps_fol (by omega) (by rw[nodeL0_length];omega) (nodeL0_ok _) (take_vb hpl (.inl rfl)) (nodeL_ne _ _) fun f=>?_
 simp only[rd]
 rw[if_neg (by simp[hn]),if_neg (by simp[h1]),if_neg (by simp[h2]),if_pos hc]
 refine zB (yI hpl) (fun _=>rfl) fun hb2 _ _=>?_
 rw[hb2]
 exact xg (yV ⟨rfl,rfl,rfl,rfl,rfl⟩)
theorem zgM{C:Ctx}{i j j2:Nat}{b' b2:Int}{l l2:List Nd}(v v2:Value)(hc:comesB C.l i ⟨#[119,104,105,108,101]⟩=true)(hpl:∀k,0<=placeOf C.l C.e k)(hp:PN C (.row 0) (i+1) (-1) l j b')(hq:PN C .block j b' l2 j2 b2):PS C i (nodeL ⟨0,8,zL,0,0,placeOf C.l C.e i⟩ [(v,l),(v2,l2)]) j2 b2:=by
 have hn:namedB C.l i=false:=kw_named hc (by kernel_rfl)
 have h1:comesB C.l i ⟨#[105,110,112,117,116]⟩=false:=yX hc (by kernel_rfl)
 have h2:comesB C.l i ⟨#[97,115,115,101,114,116]⟩=false:=yX hc (by kernel_rfl)
 have h3:comesB C.l i ⟨#[115,107,105,112]⟩=false:=yX hc (by kernel_rfl)
 have h4:comesB C.l i ⟨#[105,102]⟩=false:=yX hc (by kernel_rfl)
 have g1:=hp.1
 have g2:=hp.2.1
 have k1:=hq.1
 have k2:=hq.2.1
 simp only[bzN] at g2 k2
 refine ps_fol (by omega) (by rw[qG];simp only;omega) (kn _ _ _ _ _ hp.2.2.1 hq.2.2.1) hq.2.2.2.1 (nodeL_ne _ _) fun f=>?_
 simp only[rd]
 rw[if_neg (by simp[hn]),if_neg (by simp[h1]),if_neg (by simp[h2]),if_neg (by simp[h3]),if_neg (by simp[h4]),if_pos hc]
 refine zB (hp.fol f) (fun hb=>(hq.2.2.2.2.1 hb).2) fun hb ts hl=>?_
 rw[hb] at hq
 refine zB (hq.fol f) (fun _=>rfl) fun hb2 us hl2=>?_
 rw[hb2]
 subst hl hl2
 exact xg (nodeL2_flat ⟨rfl,rfl,rfl,rfl,rfl⟩)
theorem zka{C:Ctx}{i j j2:Nat}{b' b2:Int}{l l2:List Nd}(v v2:Value)(h1:comesB C.l i ⟨#[105,110,112,117,116]⟩=false)(h2:comesB C.l i ⟨#[97,115,115,101,114,116]⟩=false)(h3:comesB C.l i ⟨#[115,107,105,112]⟩=false)(hc:comesB C.l i ⟨#[105,102]⟩=true)(hpl:∀k,0<=placeOf C.l C.e k)(hp:PN C (.row 0) (i+1) (-1) l j b')(hq:PN C .block j b' l2 j2 b2)(he:isP C j2 b2 ⟨#[101,108,115,101]⟩=false):PS C i (nodeL ⟨0,7,zL,0,0,placeOf C.l C.e i⟩ [(v,l),(v2,l2)]) j2 b2:=by
 have hn:namedB C.l i=false:=kw_named hc (by kernel_rfl)
 have g1:=hp.1
 have g2:=hp.2.1
 have k1:=hq.1
 have k2:=hq.2.1
 simp only[bzN] at g2 k2
 refine ps_fol (by omega) (by rw[qG];simp only;omega) (kn _ _ _ _ _ hp.2.2.1 hq.2.2.1) hq.2.2.2.1 (nodeL_ne _ _) fun f=>?_
 simp only[rd]
 rw[if_neg (by simp[hn]),if_neg (by simp[h1]),if_neg (by simp[h2]),if_neg (by simp[h3]),if_pos hc]
 refine zB (hp.fol f) (fun hb=>(hq.2.2.2.2.1 hb).2) fun hb ts hl=>?_
 rw[hb] at hq
 refine zB (hq.fol f) (fun _=>rfl) fun hb2 us hl2=>?_
 rw[hb2,isP_good] at he
 rw[hb2,if_neg (by simp[he])]
 subst hl hl2
 exact xg (nodeL2_flat ⟨rfl,rfl,rfl,rfl,rfl⟩)
theorem zeP{C:Ctx}{i j j2 j3:Nat}{b' b2 b3:Int}{l l2 l3:List Nd}(v v2 v3:Value)(h1:comesB C.l i ⟨#[105,110,112,117,116]⟩=false)(h2:comesB C.l i ⟨#[97,115,115,101,114,116]⟩=false)(h3:comesB C.l i ⟨#[115,107,105,112]⟩=false)(hc:comesB C.l i ⟨#[105,102]⟩=true)(hpl:∀k,0<=placeOf C.l C.e k)(hp:PN C (.row 0) (i+1) (-1) l j b')(hq:PN C .block j b' l2 j2 b2)(he:isP C j2 b2 ⟨#[101,108,115,101]⟩=true)(hs:PN C .block (j2+1) b2 l3 j3 b3):PS C i (nodeL ⟨0,7,zL,0,0,placeOf C.l C.e i⟩ [(v,l),(v2,l2),(v3,l3)]) j3 b3:=by
 have hn:namedB C.l i=false:=kw_named hc (by kernel_rfl)
 have g1:=hp.1
 have g2:=hp.2.1
 have k1:=hq.1
 have k2:=hq.2.1
 have m1:=hs.1
 have m2:=hs.2.1
 simp only[bzN] at g2 k2 m2
 have hb20:=(isP_lt he).2
 have hb2:b2= -1:=by rcases hq.2.2.2.1 with h|h<;>omega
 refine ps_fol (by omega) (by rw[nodeL3_length];simp only;omega) (nodeL3_ok _ _ _ _ _ _ _ hp.2.2.1 hq.2.2.1 hs.2.2.1) hs.2.2.2.1 (nodeL_ne _ _) fun f=>?_
 simp only[rd]
 rw[if_neg (by simp[hn]),if_neg (by simp[h1]),if_neg (by simp[h2]),if_neg (by simp[h3]),if_pos hc]
 refine zB (hp.fol f) (fun hb=>by have:=(hq.2.2.2.2.1 hb).2;omega) fun hb ts hl=>?_
 rw[hb] at hq
 refine zB (hq.fol f) (fun hb=>by omega) fun _ us hl2=>?_
 rw[hb2,isP_good] at he
 rw[if_pos he]
 rw[hb2] at hs
 refine zB (hs.fol f) (fun _=>rfl) fun hb3 xs hl3=>?_
 rw[hb3]
 subst hl hl2 hl3
 exact xg (nodeL3_flat ⟨rfl,rfl,rfl,rfl,rfl⟩)
theorem zgN{C:Ctx}{i j j3:Nat}{b' b3:Int}{l l2:List Nd}(v v2:Value)(hn:namedB C.l i=true)(hc:comesB C.l (i+1) ⟨#[91]⟩=true)(hpl:∀k,0<=placeOf C.l C.e k)(hp:PN C (.row 0) (i+1+1) (-1) l j b')
 (hq:PN C (.row 0) (zk C (zk C j b' ⟨#[93]⟩) (zn C j b' ⟨#[93]⟩) ⟨#[58,61]⟩) (zn C (zk C j b' ⟨#[93]⟩) (zn C j b' ⟨#[93]⟩) ⟨#[58,61]⟩) l2 j3 b3):PS C i (nodeL ⟨0,3,textAt C.l i,0,0,placeOf C.l C.e i⟩ [(v,l),(v2,l2)]) (zk C j3 b3 ⟨#[59]⟩) (zn C j3 b3 ⟨#[59]⟩):=by
 have g1:=hp.1
 have g2:=hp.2.1
 have k1:=hq.1
 have k2:=hq.2.1
 simp only[bzN] at g2 k2
 have t1:j<=zk C j b' ⟨#[93]⟩:=z7
 have t2:zk C j b' ⟨#[93]⟩<=zk C (zk C j b' ⟨#[93]⟩) (zn C j b' ⟨#[93]⟩) ⟨#[58,61]⟩:=z7
 have t3:j3<=zk C j3 b3 ⟨#[59]⟩:=z7
 refine ps_fol (by omega) (by rw[qG];simp only;omega) (kn _ _ _ _ _ hp.2.2.1 hq.2.2.1) (take_vb hpl hq.2.2.2.1) (nodeL_ne _ _) fun f=>?_
 simp only[rd]
 rw[if_pos hn,if_pos hc]
 refine zB (hp.fol f) (fun hb=>?_) fun hb ts hl=>?_
 ·have e1:=(zt (C:=C) (i:=j) (s:=⟨#[93]⟩) hb).2
  rw[e1] at hq
  have e2:=(zt (C:=C) (i:=zk C j b' ⟨#[93]⟩) (s:=⟨#[58,61]⟩) hb).2
  rw[e2] at hq
  have e3:=(hq.2.2.2.2.1 hb).2
  rw[e3]
  exact(zt hb).2
 rw[hb] at hq
 refine zB (yI hpl) (fun hb=>?_) fun hb2 _ _=>?_
 ·have e2:=(zt (C:=C) (i:=zk C j (-1) ⟨#[93]⟩) (s:=⟨#[58,61]⟩) hb).2
  rw[e2] at hq
  have e3:=(hq.2.2.2.2.1 hb).2
  rw[e3]
  exact(zt hb).2
 rw[hb2] at hq
 refine zB (yI hpl) (fun hb=>?_) fun hb3 _ _=>?_
 ·have e3:=(hq.2.2.2.2.1 hb).2
  rw[e3]
  exact(zt hb).2
 rw[hb3] at hq
 refine zB (hq.fol f) (fun hb=>(zt hb).2) fun hb4 us hl2=>?_
 rw[hb4]
 refine zB (yI hpl) (fun _=>rfl) fun hb5 _ _=>?_
 rw[hb5]
 subst hl hl2
 exact xg (nodeL2_flat ⟨rfl,rfl,rfl,rfl,rfl⟩)
theorem zeQ{C:Ctx}{i j:Nat}{b':Int}{l:List Nd}(v:Value)(h1:comesB C.l i ⟨#[105,110,112,117,116]⟩=false)(h2:comesB C.l i ⟨#[97,115,115,101,114,116]⟩=false)(h3:comesB C.l i ⟨#[115,107,105,112]⟩=false)(h4:comesB C.l i ⟨#[119,104,105,108,101]⟩=false)(h5:comesB C.l i ⟨#[105,102]⟩=false)(hc:isP C (nameJ C i (-1)) (zD C i (-1)) ⟨#[91]⟩=false)(hpl:∀k,0<=placeOf C.l C.e k)
 (hq:PN C (.row 0) (zk C (nameJ C i (-1)) (zD C i (-1)) ⟨#[58,61]⟩) (zn C (nameJ C i (-1)) (zD C i (-1)) ⟨#[58,61]⟩) l j b'):PS C i (nodeL ⟨0,2,zV C i (-1),0,0,placeOf C.l C.e i⟩ [(v,l)]) (zk C j b' ⟨#[59]⟩) (zn C j b' ⟨#[59]⟩):=by
 have k1:=hq.1
 have k2:=hq.2.1
 simp only[bzN] at k2
 have t1:i<=nameJ C i (-1):=ve
 have t2:nameJ C i (-1)<=zk C (nameJ C i (-1)) (zD C i (-1)) ⟨#[58,61]⟩:=z7
 have t3:j<=zk C j b' ⟨#[59]⟩:=z7
 have hlen:(nodeL ⟨0,2,zV C i (-1),0,0,placeOf C.l C.e i⟩ [(v,l)]).length<=zk C j b' ⟨#[59]⟩-i+1:=by rw[xm];simp only;omega
 cases hn:namedB C.l i with
 |true=>
  obtain⟨e1,e2,e3⟩:=qM hn
  rw[e1,e2] at hq hc
  rw[isP_good] at hc
  refine ps_fol (by omega) hlen (nodeL1_ok _ _ _ hq.2.2.1) (take_vb hpl hq.2.2.2.1) (nodeL_ne _ _) fun f=>?_
  simp only[rd]
  rw[if_pos hn,if_neg (by simp[hc])]
  refine zB (yI hpl) (fun hb=>?_) fun hb3 _ _=>?_
  ·have e3:=(hq.2.2.2.2.1 hb).2
   rw[e3]
   exact(zt hb).2
  rw[hb3] at hq
  refine zB (hq.fol f) (fun hb=>(zt hb).2) fun hb4 us hl2=>?_
  rw[hb4]
  refine zB (yI hpl) (fun _=>rfl) fun hb5 _ _=>?_
  rw[hb5,e3]
  subst hl2
  exact xg (qB ⟨rfl,rfl,rfl,rfl,rfl⟩)
 |false=>
  obtain⟨e1,e2⟩:=za0 hn
  have hb:0<=zD C i (-1):=by rw[e2];exact hpl i
  refine⟨by omega,hlen,nodeL1_ok _ _ _ hq.2.2.1,take_vb hpl hq.2.2.2.1,nodeL_ne _ _,fun f r hr=>?_⟩
  cases f with
  |zero=>cases hr
  |succ f=>
   simp only[rd] at hr
   rw[if_neg (by simp[hn]),if_neg (by simp[h1]),if_neg (by simp[h2]),if_neg (by simp[h3]),if_neg (by simp[h5]),if_neg (by simp[h4])] at hr
   obtain rfl:=Option.some.inj hr
   simp only[noStmt,List.isEmpty_nil,if_true]
   rw[(zt (C:=C) (s:=⟨#[58,61]⟩) hb).2] at hq
   have e3:=(hq.2.2.2.2.1 hb).2
   rw[e3,(zt hb).2,e2]
   exact⟨rfl,hpl i⟩
theorem want_cases{C:Ctx}{s:ByteArray}{i:Nat}(hpl:∀k,0<=placeOf C.l C.e k):(zn C i (-1) s= -1/\zk C i (-1) s=i+1/\wantR C s i=some (.ok () (i+1)))\/(0<=zn C i (-1) s/\wantR C s i=some (.no (zn C i (-1) s))):=by
 unfold wantR zk zn
 rw[isP_good]
 cases comesB C.l i s with
 |true=>exact .inl ⟨rfl,rfl,rfl⟩
 |false=>
  rw[if_neg (by simp),if_neg (by simp),xq]
  exact .inr ⟨hpl i,rfl⟩
theorem name_cases{C:Ctx}{i:Nat}(hpl:∀k,0<=placeOf C.l C.e k):(zD C i (-1)= -1/\nameJ C i (-1)=i+1/\yx C i=some (.ok (zV C i (-1)) (i+1)))\/(0<=zD C i (-1)/\yx C i=some (.no (zD C i (-1)))):=by
 unfold yx nameJ zD zV
 rw[yW]
 cases namedB C.l i with
 |true=>exact .inl ⟨rfl,rfl,rfl⟩
 |false=>
  rw[if_neg (by simp),if_neg (by simp),xq]
  exact .inr ⟨hpl i,rfl⟩
def numP(C:Ctx)(i:Nat)(b:Int):Bool:=decide (b<0)&&numbB C.l i
def numJ(C:Ctx)(i:Nat)(b:Int):Nat:=if numP C i b then i+1 else i
def numB(C:Ctx)(i:Nat)(b:Int):Int:=if numP C i b then b else bad1 C i b
def numN(C:Ctx)(i:Nat)(b:Int):Int:=if numP C i b then numAtT C.l i else 0
theorem ze0{C:Ctx}{i:Nat}:numP C i (-1)=numbB C.l i:=by unfold numP;simp
theorem zg1{C:Ctx}{i:Nat}{b:Int}(h:0<=b):numP C i b=false:=by unfold numP;rw[decide_eq_false (by omega)];rfl
theorem ziA{C:Ctx}{i:Nat}{b:Int}:i<=numJ C i b:=by unfold numJ;split<;>omega
theorem zg0{C:Ctx}{i:Nat}{b:Int}(h:0<=b):numJ C i b=i/\numB C i b=b:=by
 unfold numJ numB
 rw[zg1 h,if_neg (by simp),if_neg (by simp)]
 exact⟨rfl,uS h⟩
theorem zjw{C:Ctx}{i:Nat}{b:Int}(hpl:∀k,0<=placeOf C.l C.e k)(h:Vb b):Vb (numB C i b):=by
 unfold numB
 split
 ·exact h
 ·exact uR hpl
theorem num_cases{C:Ctx}{i:Nat}(hpl:∀k,0<=placeOf C.l C.e k):(numB C i (-1)= -1/\numJ C i (-1)=i+1/\z6 C i=some (.ok (numN C i (-1)) (i+1)))\/(0<=numB C i (-1)/\z6 C i=some (.no (numB C i (-1)))):=by
 unfold z6 numJ numB numN
 rw[ze0]
 cases numbB C.l i with
 |true=>exact .inl ⟨rfl,rfl,rfl⟩
 |false=>
  rw[if_neg (by simp),if_neg (by simp),xq]
  exact .inr ⟨hpl i,rfl⟩
def PD(C:Ctx)(i:Nat)(l:List Nd)(j:Nat)(b':Int):Prop:=
 i<j/\l.length=1/\NtOk l/\Vb b'/\∃t,∀f,(b'= -1->l=flatTs [t] 1/\rd C (f+1) .prog i=andThen (rd C f .prog j) fun us k=>some (.ok (t::us) k))/\(0<=b'->rd C (f+1) .prog i=some (.no b'))
theorem zju{C:Ctx}{i:Nat}(hc:comesB C.l i ⟨#[118,97,114]⟩=true)(hpl:∀k,0<=placeOf C.l C.e k):PD C i (nodeL ⟨0,0,zV C (i+1) (-1),0,0,placeOf C.l C.e i⟩ []) (zk C (nameJ C (i+1) (-1)) (zD C (i+1) (-1)) ⟨#[59]⟩) (zn C (nameJ C (i+1) (-1)) (zD C (i+1) (-1)) ⟨#[59]⟩):=by
 have g1:i+1<=nameJ C (i+1) (-1):=ve
 have g2:nameJ C (i+1) (-1)<=zk C (nameJ C (i+1) (-1)) (zD C (i+1) (-1)) ⟨#[59]⟩:=z7
 refine⟨by omega,nodeL0_length _,nodeL0_ok _,take_vb hpl (gA hpl (.inl rfl)),zJ 0 (zV C (i+1) (-1)) 0 0 (placeOf C.l C.e i) [],fun f=>?_⟩
 simp only[rd]
 rw[if_pos hc]
 rcases name_cases (i:=i+1) hpl with⟨e1,e2,e3⟩|⟨e1,e2⟩
 ·rw[e1,e2,e3]
  simp only[andThen]
  rcases want_cases (s:=⟨#[59]⟩) (i:=i+1+1) hpl with⟨w1,w2,w3⟩|⟨w1,w2⟩
  ·rw[w1,w2,w3]
   exact⟨fun _=>⟨yV ⟨rfl,rfl,rfl,rfl,rfl⟩,rfl⟩,fun h=>by omega⟩
  ·rw[w2]
   exact⟨fun h=>by omega,fun _=>rfl⟩
 ·rw[(zt e1).2,e2]
  exact⟨fun h=>by omega,fun _=>rfl⟩
theorem zgU{C:Ctx}{i:Nat}(hn:comesB C.l i ⟨#[118,97,114]⟩=false)(hc:comesB C.l i ⟨#[97,114,114,97,121]⟩=true)(hpl:∀k,0<=placeOf C.l C.e k){j1 j2 j3 j4 j5:Nat}{b1 b2 b3 b4 b5:Int}(h1:nameJ C (i+1) (-1)=j1/\zD C (i+1) (-1)=b1)(h2:zk C j1 b1 ⟨#[91]⟩=j2/\zn C j1 b1 ⟨#[91]⟩=b2)(h3:numJ C j2 b2=j3/\numB C j2 b2=b3)(h4:zk C j3 b3 ⟨#[93]⟩=j4/\zn C j3 b3 ⟨#[93]⟩=b4)(h5:zk C j4 b4 ⟨#[59]⟩=j5/\zn C j4 b4 ⟨#[59]⟩=b5):
 PD C i (nodeL ⟨0,1,zV C (i+1) (-1),numN C j2 b2,0,placeOf C.l C.e i⟩ []) j5 b5:=by
 have g1:i+1<=j1:=by rw[<-h1.1];exact ve
 have g2:j1<=j2:=by rw[<-h2.1];exact z7
 have g3:j2<=j3:=by rw[<-h3.1];exact ziA
 have g4:j3<=j4:=by rw[<-h4.1];exact z7
 have g5:j4<=j5:=by rw[<-h5.1];exact z7
 have v1:Vb b1:=by rw[<-h1.2];exact gA hpl (.inl rfl)
 have v2:Vb b2:=by rw[<-h2.2];exact take_vb hpl v1
 have v3:Vb b3:=by rw[<-h3.2];exact zjw hpl v2
 have v4:Vb b4:=by rw[<-h4.2];exact take_vb hpl v3
 have v5:Vb b5:=by rw[<-h5.2];exact take_vb hpl v4
 have s1:0<=b1->b2=b1:=fun h=>by rw[<-h2.2];exact(zt h).2
 have s2:0<=b2->b3=b2:=fun h=>by rw[<-h3.2];exact(zg0 h).2
 have s3:0<=b3->b4=b3:=fun h=>by rw[<-h4.2];exact(zt h).2
 have s4:0<=b4->b5=b4:=fun h=>by rw[<-h5.2];exact(zt h).2
 refine⟨by omega,nodeL0_length _,nodeL0_ok _,v5,zJ 1 (zV C (i+1) (-1)) (numN C j2 b2) 0 (placeOf C.l C.e i) [],fun f=>?_⟩
 simp only[rd]
 rw[if_neg (by simp[hn]),if_pos hc]
 rcases name_cases (i:=i+1) hpl with⟨e1,e2,e3⟩|⟨e1,e2⟩
 ·obtain rfl:b1= -1:=by rw[<-h1.2,e1]
  obtain rfl:j1=i+1+1:=by rw[<-h1.1,e2]
  rw[e3]
  simp only[andThen]
  rcases want_cases (s:=⟨#[91]⟩) (i:=i+1+1) hpl with⟨w1,w2,w3⟩|⟨w1,w2⟩
  ·obtain rfl:b2= -1:=by rw[<-h2.2,w1]
   obtain rfl:j2=i+1+1+1:=by rw[<-h2.1,w2]
   rw[w3]
   simp only
   rcases num_cases (i:=i+1+1+1) hpl with⟨u1,u2,u3⟩|⟨u1,u2⟩
   ·obtain rfl:b3= -1:=by rw[<-h3.2,u1]
    obtain rfl:j3=i+1+1+1+1:=by rw[<-h3.1,u2]
    rw[u3]
    simp only
    rcases want_cases (s:=⟨#[93]⟩) (i:=i+1+1+1+1) hpl with⟨w1,w2,w3⟩|⟨w1,w2⟩
    ·obtain rfl:b4= -1:=by rw[<-h4.2,w1]
     obtain rfl:j4=i+1+1+1+1+1:=by rw[<-h4.1,w2]
     rw[w3]
     simp only
     rcases want_cases (s:=⟨#[59]⟩) (i:=i+1+1+1+1+1) hpl with⟨w1,w2,w3⟩|⟨w1,w2⟩
     ·obtain rfl:b5= -1:=by rw[<-h5.2,w1]
      obtain rfl:j5=i+1+1+1+1+1+1:=by rw[<-h5.1,w2]
      rw[w3]
      exact⟨fun _=>⟨yV ⟨rfl,rfl,rfl,rfl,rfl⟩,rfl⟩,fun h=>by omega⟩
     ·rw[w2,h5.2]
      rw[h5.2] at w1
      exact⟨fun h=>by omega,fun _=>rfl⟩
    ·rw[w2,h4.2]
     rw[h4.2] at w1
     have:=s4 w1
     exact⟨fun h=>by omega,fun _=>by rw[this]⟩
   ·rw[u2,h3.2]
    rw[h3.2] at u1
    have a3:=s3 u1
    have a4:=s4 (by omega)
    exact⟨fun h=>by omega,fun _=>by rw[a4,a3]⟩
  ·rw[w2,h2.2]
   rw[h2.2] at w1
   have a2:=s2 w1
   have a3:=s3 (by omega)
   have a4:=s4 (by omega)
   exact⟨fun h=>by omega,fun _=>by rw[a4,a3,a2]⟩
 ·rw[e2,h1.2]
  rw[h1.2] at e1
  have a1:=s1 e1
  have a2:=s2 (by omega)
  have a3:=s3 (by omega)
  have a4:=s4 (by omega)
  exact⟨fun h=>by omega,fun _=>by simp only[andThen];rw[a4,a3,a2,a1]⟩
def DclI(C:Ctx)(l:List Nd)(j:Nat)(b':Int):Prop:=
 l.length<=j/\NtOk l/\Vb b'/\((b'= -1/\∃ts,l=flatTs ts 1/\∀f r,rd C f .prog 0=some r->∃f' r',rd C f' .prog j=some r'/\r=ue ts r')\/(0<=b'/\∀f r,rd C f .prog 0=some r->r= .no b'))
theorem zd1{C:Ctx}:DclI C [] 0 (-1):=⟨by simp, .nil, .inl rfl, .inl ⟨rfl,[],rfl,fun f r hr=>⟨f,r,hr,by cases r<;>rfl⟩⟩⟩
theorem dclI_next{C:Ctx}{l l2:List Nd}{j j2:Nat}{b2:Int}(h:DclI C l j (-1))(hp:PD C j l2 j2 b2):DclI C (l++l2) j2 b2:=by
 obtain⟨h1,h2,h3,h4⟩:=h
 obtain⟨p1,p2,p3,p4,t,p5⟩:=hp
 refine⟨by rw[List.length_append];omega,h2.append p3,p4,?_⟩
 rcases h4 with⟨_,ts,hl,hf⟩|⟨hp0,_⟩
 ·rcases p4 with hb|hb
  ·have hl0:=((p5 0).1 hb).1
   refine .inl ⟨hb,ts++[t],by rw[hl,hl0,zY],fun f r hr=>?_⟩
   obtain⟨f',r',hr',e⟩:=hf f r hr
   cases f' with
   |zero=>cases hr'
   |succ f'=>
    have he:=((p5 f').1 hb).2
    rw[he] at hr'
    cases hx:rd C f' .prog j2 with
    |none=>rw[hx] at hr';cases hr'
    |some r2=>
     rw[hx] at hr'
     refine⟨f',r2,hx,?_⟩
     cases r2 with
     |no p=>obtain rfl:=Option.some.inj hr';exact e
     |ok us k=>obtain rfl:=Option.some.inj hr';rw[e];simp[ue]
  ·refine .inr ⟨hb,fun f r hr=>?_⟩
   obtain⟨f',r',hr',e⟩:=hf f r hr
   cases f' with
   |zero=>cases hr'
   |succ f'=>
    rw[(p5 f').2 hb] at hr'
    obtain rfl:=Option.some.inj hr'
    exact e
 ·omega
theorem zaM{C:Ctx}{l l2:List Nd}{j j2:Nat}{b b2:Int}(h:DclI C l j b)(hn:b= -1->comesB C.l j ⟨#[118,97,114]⟩=false/\comesB C.l j ⟨#[97,114,114,97,121]⟩=false)(hs:StsI C (fun k=>k<C.l.length) j b l2 j2 b2)(hex:0<=b2\/C.l.length<=j2):
 (l++l2).length<=j2+1/\Vb b2/\∀f r,rd C f .prog 0=some r->(b2= -1->∃ts k,r= .ok ts k/\l++l2=flatTs ts 1)/\(0<=b2->r= .no b2):=by
 obtain⟨h1,h2,h3,h4⟩:=h
 obtain⟨s1,s2,s3,s4,s5,s6,s7⟩:=hs
 refine⟨by rw[List.length_append];omega,s4,fun f r hr=>?_⟩
 rcases h4 with⟨hb,ts,hl,hf⟩|⟨hb,hf⟩
 ·obtain⟨n1,n2⟩:=hn hb
  obtain⟨f',r',hr',e⟩:=hf f r hr
  cases f' with
  |zero=>cases hr'
  |succ f'=>
   simp only[rd] at hr'
   rw[if_neg (by simp[n1]),if_neg (by simp[n2])] at hr'
   cases hx:rd C f' .stmts j with
   |none=>rw[hx] at hr';cases hr'
   |some r2=>
    rw[hx] at hr'
    rcases s7 hb with⟨rfl,us,hl2,hf2⟩|⟨hb2,hf2⟩
    ·obtain⟨f3,r3,hr3,e3⟩:=hf2 f' r2 hx
     have hj:C.l.length<=j2:=by rcases hex with h|h<;>omega
     obtain rfl:=wg (fun f=>zgA hj) hr3
     subst e3
     simp only[ue,andThen] at hr'
     rw[if_neg (by omega)] at hr'
     obtain rfl:=Option.some.inj hr'
     refine⟨fun _=>⟨ts++(us++[]),j2,e,by rw[hl,hl2,List.append_nil,zY]⟩,fun h=>by omega⟩
    ·refine⟨fun h=>by omega,fun _=>?_⟩
     rcases hf2 f' r2 hx with rfl|⟨us,k,rfl,hk,hz⟩
     ·obtain rfl:=Option.some.inj hr'
      exact e
     ·simp only[andThen] at hr'
      rw[if_pos hz] at hr'
      obtain rfl:=Option.some.inj hr'
      rw[e,hk]
      rfl
 ·obtain⟨rfl,rfl,rfl⟩:=s6 hb
  exact⟨fun h=>by omega,fun _=>hf f r hr⟩
theorem RP.kept0{C:Ctx}{i:Nat}{b:Int}{w w':World}{B:Nat}(h:RP C i b w)(hr:C.r<B)(hg:C.l≠[]->C.g<B)(hk:∀k,k<B->w'.heap[k]? =w.heap[k]?):RP C i b w':=by
 obtain⟨bo,cap,h1,h2,h3⟩:=h.blk
 exact⟨⟨bo,cap,(hk _ hr).trans h1,h2,h3⟩,h.toks.of fun hne o=>World.cell?_of_block (a:=⟨C.g,o,none⟩) (hk _ (hg hne)),h.ne,h.le,h.len,h.pos,h.e0⟩
theorem PSt.grown{C:Ctx}{w wk w':World}{R i i0:Nat}{b b0:Int}{row:Option Nat}(h:PSt C w R i b wk)(g:wk.grownBy w' row)(h0:RP C i0 b0 w)(hr:∀k,row=some k->w.heap.size<=k):PSt C w R i b w':=by
 have hk:∀k,k<w.heap.size->w'.heap[k]? =wk.heap[k]? :=fun k hk=>g.block k (Nat.lt_of_lt_of_le hk h.gr.size) (fun e=>by have:=hr k e.symm;omega)
 exact⟨h.rp.kept0 h0.lt (fun hne=>h0.toks.glt hne) hk,⟨g.os.trans h.gr.os,g.output.trans h.gr.out,Nat.le_trans h.gr.size g.size,fun k hk1 hk2=>(hk k hk1).trans (h.gr.block k hk1 hk2)⟩,h.vb,h.rem⟩
theorem ziC{C:Ctx}{wr:World}{Z:Nat->Prop}{i j:Nat}{b b':Int}{v:Value}{l:List Nd}{B:Nat}(ho:wr.ownsRow B 50 6 v l.length (ndCells l))(hI:StsI C Z i b l j b')(hR:RP C j b' wr):Lst B wr (v,l):=by
 refine⟨ho,hI.2.2.1,?_⟩
 have h1:=hI.2.1
 have h2:=hR.le
 have h3:=hR.len
 show l.length<=20000
 omega
theorem zeO{C:Ctx}{i j:Nat}{b':Int}{l:List Nd}{w:World}(h:PS C i l j b')(hR:RP C j b' w):0<l.length/\l.length<=20000:=by
 have h1:=h.2.1
 have h2:=hR.le
 have h3:=hR.len
 exact⟨List.length_pos_iff.2 h.2.2.2.2.1,by omega⟩
theorem zey{C:Ctx}{i:Nat}{b:Int}{s:ByteArray}(h:zn C i b s= -1)(hpl:∀k,0<=placeOf C.l C.e k)(hv:Vb b):b= -1/\i<C.l.length/\zk C i b s=i+1:=by
 unfold zn at h
 unfold zk
 split at h
 ·rename_i hi
  rw[if_pos hi]
  exact⟨h,(isP_lt hi).1,rfl⟩
 ·have:0<=bad1 C i b:=by
   unfold bad1
   split
   ·exact hpl i
   ·omega
  omega
theorem zbT{C:Ctx}{N:Nat}(IH:PAll C N)(hWD:WdOk C.l)(i:Nat)(b:Int)(w:World)(h:RP C i b w)(hv:Vb b)(hm:remP C i b*20+9<=N):Calls Tryz.prog 94 #[.pointer (some ⟨C.r,0,none⟩)] w (yG C w (PN C .block i b)):=by
 have hS:=PSt.start h hv
 have hrl:=h.lt
 have hlen:=h.len
 have HPL:Hid (∀k,0<=placeOf C.l C.e k):=Lib.hid (yA h)
 obtain⟨q1,qf,q3⟩:=h.at1
 generalize hQ:yG C w (PN C .block i b)=Q
 have HQ:Hid (∀v l j b' w',w'.ownsRow w.heap.size 50 6 v l.length (ndCells l)->RP C j b' w'->Gr C.r w w'->PN C .block i b l j b'->Q (.returned v) w'):=Lib.hid (fun v l j b' w' h1 h2 h3 h4=>by rw[<-hQ];exact⟨v,l,j,b',rfl,h1,h2,h3,h4⟩)
 clear hQ
 have HIH:=Lib.hid IH
 clear IH
 have HWD:=Lib.hid hWD
 clear hWD
 have HR0:=Lib.hid h
 clear h
 obtain⟨ti,hi,hz0,hz1,hz2⟩:=info_parts kN
 go_enter Tryz.func94,Tryz.ntmps94
 go_wp2_with (first|(go_at_call 88;with_reducible refine(zr C _ _ _ hS.rp).mono ?_;rintro e w' ⟨rfl,K⟩;replace hS:=hS.kin K;clear q1 qf q3;obtain⟨q1,qf,q3⟩:=hS.rp.at1;skip;clear K)|(go_at_call 90;with_reducible refine(zA C _ _ ⟨#[123]⟩ _ hS.rp).mono ?_;rintro e w' ⟨rfl,hR,hG⟩;have G:=Gr.of_grew hG;skip;replace hS:=hS.take hR hG;clear q1 qf q3;obtain⟨q1,qf,q3⟩:=hS.rp.at1;clear hR hG G))
 have HS1:=Lib.hid hS
 clear hS q1 qf q3
 go_loopg [4] (C.l.length+2) (fun gg x wr=>∃(l:List Nd) (j:Nat) (b':Int),wr.ownsRow w.heap.size 50 6 x l.length (ndCells l)/\PSt C w (remP C i b) j b' wr/\StsI C (fun k=>comesB C.l k ⟨#[125]⟩=false) (zk C i b ⟨#[123]⟩) (zn C i b ⟨#[123]⟩) l j b'/\remP C j b'<=gg)
 case atStart=>exact⟨[],_,_,World.ownsRow_nil _ _ _ _,HS1.out,wf HS1.out.vb,by unfold remP;split<;>omega⟩
 case round=>
  obtain⟨l,j,b',hO,hS,hI,hgg⟩:=hrel
  clear HS1
  have HI:=Lib.hid hI
  have HG:=Lib.hid hgg
  have hl1:=ziC hO hI hS.rp
  have hln:l.length<=20000:=hl1.2.2
  obtain⟨bo,m,c,rfl⟩:=zP hO
  clear hI hgg
  obtain⟨q1,qf,q3⟩:=hS.rp.at1
  rcases hS.vb with hb1|hb1
  ·subst hb1
   cases hz:isP C j (-1) ⟨#[125]⟩ with
   |true=>
    have I:Hid (isP C j (-1) ⟨#[125]⟩=true):=Lib.hid hz
    clear hz
    go_wp2_with (first|(go_at_call 46;with_reducible refine(za C j _ ⟨#[125]⟩ _ hS.rp).mono ?_;rintro e w' ⟨rfl,K⟩;replace hS:=hS.kin K;clear q1 qf q3;obtain⟨q1,qf,q3⟩:=hS.rp.at1;replace hO:=owns_kin hO K;replace hl1:=hl1.kin K;rw[I.out];clear K)|(go_at_call 90;with_reducible refine(zA C _ _ ⟨#[125]⟩ _ hS.rp).mono ?_;rintro e w' ⟨rfl,hR,hG⟩;have G:=Gr.of_grew hG;replace hl1:=hl1.gr G hrl;replace hS:=hS.take hR hG;clear q1 qf q3;obtain⟨q1,qf,q3⟩:=hS.rp.at1;clear hR hG G)|(go_at_call 91;with_reducible refine(node1 ⟨0,9,⟨#[]⟩,0,0,placeOf C.l C.e i⟩ w.heap.size _ hS.gr.size (_,l) hl1).mono ?_;rintro e w' ⟨v,rfl,ho2,K2⟩;replace hS:=hS.kin K2;clear K2))
    exact HQ.out _ _ _ _ _ ho2 hS.rp hS.gr (zaP _ HWD.out HPL.out hv HI.out (.inr I.out))
   |false=>
    have I:Hid (isP C j (-1) ⟨#[125]⟩=false):=Lib.hid hz
    have HZ:Hid (comesB C.l j ⟨#[125]⟩=false):=Lib.hid (by rwa [isP_good] at hz)
    clear hz
    have hnb:¬0<=zn C i b ⟨#[123]⟩:=fun h=>by have:=(HI.out.2.2.2.2.2.1 h).2.1;omega
    have htb:zn C i b ⟨#[123]⟩= -1:=by rcases take_vb (s:=⟨#[123]⟩) (i:=i) HPL.out hv with h|h<;>omega
    obtain⟨hb0,hlt,hj0⟩:=zey htb HPL.out hv
    have hij:=HI.out.1
    rw[hj0] at hij
    have hrm:remP C j (-1)*20+10<N:=by
     rw[remP_good (by omega)] at hm⊢
     omega
    have hnl:=zS l
    clear hnb htb hb0 hj0
    go_wp2_with (first|(go_at_call 46;with_reducible refine(za C j _ ⟨#[125]⟩ _ hS.rp).mono ?_;rintro e w' ⟨rfl,K⟩;replace hS:=hS.kin K;clear q1 qf q3;obtain⟨q1,qf,q3⟩:=hS.rp.at1;replace hO:=owns_kin hO K;try clear hl1;rw[I.out];clear K)|(go_at_call 48;with_reducible refine(HIH.out.stmt j _ hS.rp (by omega)).mono ?_;rintro e w' ⟨v2,l2,j2,b2,rfl,ho,hR,G,hP⟩;obtain⟨hp0,hp1⟩:=zeO hP hR;obtain⟨g1,cap1,rfl,hg1⟩:=ho.form hp0;replace hO:=G.owns hO hrl;replace hS:=hS.subS hR G hP;clear hR G q1 qf q3)|(at_builtin;refine wpList_append_own _ rfl (.tmp 19) (.tmp 21) 25 rfl w.heap.size 50 ti _ 6 56 Tryz.underlying25 hi hz0 hz1 hz2 rfl (by decide) _ _ _ rfl hO ⟨g1,0,none⟩ l2.length cap1 (ndCells l2) rfl (zS _) (ho.cells rfl) (qn _) (by unfold maxLen;omega) (by omega) hS.gr.size ?_;intro v3 w3 hown3 hgrow3 _;replace hS:=hS.grown hgrow3 HR0.out (fun b hb=>(hO.lt b hb).1)))
    obtain⟨hI2,hj2⟩:=gM HI.out HZ.out hP
    have HI2:=Lib.hid hI2
    have hgt:remP C j2 b2<remP C j (-1):=by
     rw[remP_good (C:=C) (i:=j) (b:= -1) (by omega)]
     unfold remP
     split
     ·have:=hj2 (by rcases hP.2.2.2.1 with h|h<;>omega)
      have:=hS.rp.le
      omega
     ·omega
    clear hI2 hj2
    go_roundg (remP C j2 b2)
    case measure=>have:=HG.out;omega
    case rel=>exact⟨_,_,_,by rw[List.length_append,xb];exact hown3,hS,HI2.out,Nat.le_refl _⟩
  ·have hd:decide (b'<0)=false:=decide_eq_false (by omega)
   go_wp2_with (first|(go_at_call 46;with_reducible refine(za C j _ ⟨#[125]⟩ _ hS.rp).mono ?_;rintro e w' ⟨rfl,K⟩;replace hS:=hS.kin K;clear q1 qf q3;obtain⟨q1,qf,q3⟩:=hS.rp.at1;replace hO:=owns_kin hO K;replace hl1:=hl1.kin K;rw[I.out];clear K)|(go_at_call 90;with_reducible refine(zA C _ _ ⟨#[125]⟩ _ hS.rp).mono ?_;rintro e w' ⟨rfl,hR,hG⟩;have G:=Gr.of_grew hG;replace hl1:=hl1.gr G hrl;replace hS:=hS.take hR hG;clear q1 qf q3;obtain⟨q1,qf,q3⟩:=hS.rp.at1;clear hR hG G)|(go_at_call 91;with_reducible refine(node1 ⟨0,9,⟨#[]⟩,0,0,placeOf C.l C.e i⟩ w.heap.size _ hS.gr.size (_,l) hl1).mono ?_;rintro e w' ⟨v,rfl,ho2,K2⟩;replace hS:=hS.kin K2;clear K2))
   exact HQ.out _ _ _ _ _ ho2 hS.rp hS.gr (zaP _ HWD.out HPL.out hv HI.out (.inl hb1))
theorem zdm{C:Ctx}{N:Nat}(IH:PAll C N)(i:Nat)(w:World)(h:RP C i (-1) w)(hm0:remP C i (-1)*20+10<=N):Calls Tryz.prog 48 #[.pointer (some ⟨C.r,0,none⟩)] w (yG C w (PS C i)):=by
 have hS:=PSt.start h (.inl rfl)
 have hrl:=h.lt
 have hlen:=h.len
 have hm:=hm0
 rw[remP_good (by omega)] at hm
 have HPL:Hid (∀k,0<=placeOf C.l C.e k):=Lib.hid (yA h)
 obtain⟨q1,qf,q3⟩:=h.at1
 generalize hQ:yG C w (PS C i)=Q
 have HQ:Hid (∀v l j b' w',w'.ownsRow w.heap.size 50 6 v l.length (ndCells l)->RP C j b' w'->Gr C.r w w'->PS C i l j b'->Q (.returned v) w'):=Lib.hid (fun v l j b' w' h1 h2 h3 h4=>by rw[<-hQ];exact⟨v,l,j,b',rfl,h1,h2,h3,h4⟩)
 clear hQ h
 have HIH:=Lib.hid IH
 clear IH
 cases xI1:comesB C.l i ⟨#[105,110,112,117,116]⟩ with
 |true=>
  have I1:Hid (isP C i (-1) ⟨#[105,110,112,117,116]⟩=true):=Lib.hid (by rw[isP_good];exact xI1)
  have hlt:=comes_lt xI1
  have HLT:=Lib.hid hlt
  have HF:=Lib.hid (zgO xI1 HPL.out)
  go_enter Tryz.func48,Tryz.ntmps48
  go_upto_region 4 with(first|(go_at_call 88;with_reducible refine(zr C _ _ _ hS.rp).mono ?_;rintro e w' ⟨rfl,K⟩;replace hS:=hS.kin K;clear q1 qf q3;obtain⟨q1,qf,q3⟩:=hS.rp.at1;skip;clear K)|(go_at_call 46;with_reducible refine(za C _ _ ⟨#[105,110,112,117,116]⟩ _ hS.rp).mono ?_;rintro e w' ⟨rfl,K⟩;replace hS:=hS.kin K;clear q1 qf q3;obtain⟨q1,qf,q3⟩:=hS.rp.at1;skip;rw[I1.out];clear K))
  have hS2:=hS.inc2 HLT.out
  generalize World.setCell _ ⟨C.r,1,none⟩ (.int .i64 (((i:Nat):Int)+1))=wI at hS2⊢
  clear hS q1 qf q3
  have hS:=hS2
  clear hS2
  obtain⟨q1,qf,q3⟩:=hS.rp.at1
  go_wp2_with (first|(go_at_call 89;with_reducible refine(xL C _ _ _ hS.rp).mono ?_;rintro e w' ⟨rfl,hR,G⟩;skip;replace hS:=hS.name hR G;clear q1 qf q3;obtain⟨q1,qf,q3⟩:=hS.rp.at1;clear hR G)|(go_at_call 90;with_reducible refine(zA C _ _ ⟨#[59]⟩ _ hS.rp).mono ?_;rintro e w' ⟨rfl,hR,hG⟩;have G:=Gr.of_grew hG;skip;replace hS:=hS.take hR hG;clear q1 qf q3;obtain⟨q1,qf,q3⟩:=hS.rp.at1;clear hR hG G)|(go_at_call 91;with_reducible refine(qT ⟨0,4,zV C (i+1) (-1),0,0,placeOf C.l C.e i⟩ w.heap.size _ hS.gr.size).mono ?_;rintro e w' ⟨v,rfl,ho2,K2⟩;replace hS:=hS.kin K2;clear K2))
  exact HQ.out _ _ _ _ _ ho2 hS.rp hS.gr HF.out
 |false=>
  cases xI2:comesB C.l i ⟨#[97,115,115,101,114,116]⟩ with
  |true=>
   have I1:Hid (isP C i (-1) ⟨#[105,110,112,117,116]⟩=false):=Lib.hid (by rw[isP_good];exact xI1)
   have I2:Hid (isP C i (-1) ⟨#[97,115,115,101,114,116]⟩=true):=Lib.hid (by rw[isP_good];exact xI2)
   have hlt:=comes_lt xI2
   have HLT:=Lib.hid hlt
   go_enter Tryz.func48,Tryz.ntmps48
   go_upto_region 9 with(first|(go_at_call 88;with_reducible refine(zr C _ _ _ hS.rp).mono ?_;rintro e w' ⟨rfl,K⟩;replace hS:=hS.kin K;clear q1 qf q3;obtain⟨q1,qf,q3⟩:=hS.rp.at1;skip;clear K)|(go_at_call 46;with_reducible refine(za C _ _ ⟨#[105,110,112,117,116]⟩ _ hS.rp).mono ?_;rintro e w' ⟨rfl,K⟩;replace hS:=hS.kin K;clear q1 qf q3;obtain⟨q1,qf,q3⟩:=hS.rp.at1;skip;rw[I1.out];clear K)|(go_at_call 46;with_reducible refine(za C _ _ ⟨#[97,115,115,101,114,116]⟩ _ hS.rp).mono ?_;rintro e w' ⟨rfl,K⟩;replace hS:=hS.kin K;clear q1 qf q3;obtain⟨q1,qf,q3⟩:=hS.rp.at1;skip;rw[I2.out];clear K))
   have hS2:=hS.inc2 HLT.out
   generalize World.setCell _ ⟨C.r,1,none⟩ (.int .i64 (((i:Nat):Int)+1))=wI at hS2⊢
   clear hS q1 qf q3
   have hS:=hS2
   clear hS2
   obtain⟨q1,qf,q3⟩:=hS.rp.at1
   go_wp2_with (first|(go_at_call 93;with_reducible refine(HIH.out.expr0 _ _ _ hS.rp hS.vb (by have:=hS.rem;omega)).mono ?_;rintro e w' ⟨v1,l1,j1,b1,rfl,ho,hR,G,hP1⟩;obtain⟨bo1,m1,c1,rfl⟩:=zP ho;skip;have hl1:=lst_of ho hS.gr.size hP1 hR;replace hS:=hS.sub hR G hP1;clear q1 qf q3;obtain⟨q1,qf,q3⟩:=hS.rp.at1;clear ho hR G)|(go_at_call 90;with_reducible refine(zA C _ _ ⟨#[59]⟩ _ hS.rp).mono ?_;rintro e w' ⟨rfl,hR,hG⟩;have G:=Gr.of_grew hG;replace hl1:=hl1.gr G hrl;replace hS:=hS.take hR hG;clear q1 qf q3;obtain⟨q1,qf,q3⟩:=hS.rp.at1;clear hR hG G)|(go_at_call 91;with_reducible refine(node1 ⟨0,5,⟨#[]⟩,0,0,placeOf C.l C.e i⟩ w.heap.size _ hS.gr.size (_,l1) hl1).mono ?_;rintro e w' ⟨v,rfl,ho2,K2⟩;replace hS:=hS.kin K2;clear K2))
   exact HQ.out _ _ _ _ _ ho2 hS.rp hS.gr (zeR _ xI1 xI2 HPL.out hP1)
  |false=>
   cases xI3:comesB C.l i ⟨#[115,107,105,112]⟩ with
   |true=>
    have I1:Hid (isP C i (-1) ⟨#[105,110,112,117,116]⟩=false):=Lib.hid (by rw[isP_good];exact xI1)
    have I2:Hid (isP C i (-1) ⟨#[97,115,115,101,114,116]⟩=false):=Lib.hid (by rw[isP_good];exact xI2)
    have I3:Hid (isP C i (-1) ⟨#[115,107,105,112]⟩=true):=Lib.hid (by rw[isP_good];exact xI3)
    have hlt:=comes_lt xI3
    have HLT:=Lib.hid hlt
    have HF:=Lib.hid (zit xI1 xI2 xI3 HPL.out)
    go_enter Tryz.func48,Tryz.ntmps48
    go_upto_region 14 with(first|(go_at_call 88;with_reducible refine(zr C _ _ _ hS.rp).mono ?_;rintro e w' ⟨rfl,K⟩;replace hS:=hS.kin K;clear q1 qf q3;obtain⟨q1,qf,q3⟩:=hS.rp.at1;skip;clear K)|(go_at_call 46;with_reducible refine(za C _ _ ⟨#[105,110,112,117,116]⟩ _ hS.rp).mono ?_;rintro e w' ⟨rfl,K⟩;replace hS:=hS.kin K;clear q1 qf q3;obtain⟨q1,qf,q3⟩:=hS.rp.at1;skip;rw[I1.out];clear K)|(go_at_call 46;with_reducible refine(za C _ _ ⟨#[97,115,115,101,114,116]⟩ _ hS.rp).mono ?_;rintro e w' ⟨rfl,K⟩;replace hS:=hS.kin K;clear q1 qf q3;obtain⟨q1,qf,q3⟩:=hS.rp.at1;skip;rw[I2.out];clear K)|(go_at_call 46;with_reducible refine(za C _ _ ⟨#[115,107,105,112]⟩ _ hS.rp).mono ?_;rintro e w' ⟨rfl,K⟩;replace hS:=hS.kin K;clear q1 qf q3;obtain⟨q1,qf,q3⟩:=hS.rp.at1;skip;rw[I3.out];clear K))
    have hS2:=hS.inc2 HLT.out
    generalize World.setCell _ ⟨C.r,1,none⟩ (.int .i64 (((i:Nat):Int)+1))=wI at hS2⊢
    clear hS q1 qf q3
    have hS:=hS2
    clear hS2
    obtain⟨q1,qf,q3⟩:=hS.rp.at1
    go_wp2_with (first|(go_at_call 90;with_reducible refine(zA C _ _ ⟨#[59]⟩ _ hS.rp).mono ?_;rintro e w' ⟨rfl,hR,hG⟩;have G:=Gr.of_grew hG;skip;replace hS:=hS.take hR hG;clear q1 qf q3;obtain⟨q1,qf,q3⟩:=hS.rp.at1;clear hR hG G)|(go_at_call 91;with_reducible refine(qT ⟨0,6,⟨#[]⟩,0,0,placeOf C.l C.e i⟩ w.heap.size _ hS.gr.size).mono ?_;rintro e w' ⟨v,rfl,ho2,K2⟩;replace hS:=hS.kin K2;clear K2))
    exact HQ.out _ _ _ _ _ ho2 hS.rp hS.gr HF.out
   |false=>
    cases xI4:comesB C.l i ⟨#[119,104,105,108,101]⟩ with
    |true=>
     have I1:Hid (isP C i (-1) ⟨#[105,110,112,117,116]⟩=false):=Lib.hid (by rw[isP_good];exact xI1)
     have I2:Hid (isP C i (-1) ⟨#[97,115,115,101,114,116]⟩=false):=Lib.hid (by rw[isP_good];exact xI2)
     have I3:Hid (isP C i (-1) ⟨#[115,107,105,112]⟩=false):=Lib.hid (by rw[isP_good];exact xI3)
     have I4:Hid (isP C i (-1) ⟨#[119,104,105,108,101]⟩=true):=Lib.hid (by rw[isP_good];exact xI4)
     have hlt:=comes_lt xI4
     have HLT:=Lib.hid hlt
     go_enter Tryz.func48,Tryz.ntmps48
     go_upto_region 18 with(first|(go_at_call 88;with_reducible refine(zr C _ _ _ hS.rp).mono ?_;rintro e w' ⟨rfl,K⟩;replace hS:=hS.kin K;clear q1 qf q3;obtain⟨q1,qf,q3⟩:=hS.rp.at1;skip;clear K)|(go_at_call 46;with_reducible refine(za C _ _ ⟨#[105,110,112,117,116]⟩ _ hS.rp).mono ?_;rintro e w' ⟨rfl,K⟩;replace hS:=hS.kin K;clear q1 qf q3;obtain⟨q1,qf,q3⟩:=hS.rp.at1;skip;rw[I1.out];clear K)|(go_at_call 46;with_reducible refine(za C _ _ ⟨#[97,115,115,101,114,116]⟩ _ hS.rp).mono ?_;rintro e w' ⟨rfl,K⟩;replace hS:=hS.kin K;clear q1 qf q3;obtain⟨q1,qf,q3⟩:=hS.rp.at1;skip;rw[I2.out];clear K)|(go_at_call 46;with_reducible refine(za C _ _ ⟨#[115,107,105,112]⟩ _ hS.rp).mono ?_;rintro e w' ⟨rfl,K⟩;replace hS:=hS.kin K;clear q1 qf q3;obtain⟨q1,qf,q3⟩:=hS.rp.at1;skip;rw[I3.out];clear K)|(go_at_call 46;with_reducible refine(za C _ _ ⟨#[119,104,105,108,101]⟩ _ hS.rp).mono ?_;rintro e w' ⟨rfl,K⟩;replace hS:=hS.kin K;clear q1 qf q3;obtain⟨q1,qf,q3⟩:=hS.rp.at1;skip;rw[I4.out];clear K))
     have hS2:=hS.inc2 HLT.out
     generalize World.setCell _ ⟨C.r,1,none⟩ (.int .i64 (((i:Nat):Int)+1))=wI at hS2⊢
     clear hS q1 qf q3
     have hS:=hS2
     clear hS2
     obtain⟨q1,qf,q3⟩:=hS.rp.at1
     go_wp2_with (first|(go_at_call 93;with_reducible refine(HIH.out.expr0 _ _ _ hS.rp hS.vb (by have:=hS.rem;omega)).mono ?_;rintro e w' ⟨v1,l1,j1,b1,rfl,ho,hR,G,hP1⟩;obtain⟨bo1,m1,c1,rfl⟩:=zP ho;skip;have hl1:=lst_of ho hS.gr.size hP1 hR;replace hS:=hS.sub hR G hP1;clear q1 qf q3;obtain⟨q1,qf,q3⟩:=hS.rp.at1;clear ho hR G)|(go_at_call 94;with_reducible refine(HIH.out.block _ _ _ hS.rp hS.vb (by have:=hS.rem;omega)).mono ?_;rintro e w' ⟨v2,l2,j2,b2,rfl,ho,hR,G,hP2⟩;obtain⟨bo2,m2,c2,rfl⟩:=zP ho;replace hl1:=hl1.gr G hrl;have hl2:=lst_of ho hS.gr.size hP2 hR;replace hS:=hS.sub hR G hP2;clear q1 qf q3;obtain⟨q1,qf,q3⟩:=hS.rp.at1;clear ho hR G)|(go_at_call 91;with_reducible refine(zaz ⟨0,8,⟨#[]⟩,0,0,placeOf C.l C.e i⟩ w.heap.size _ hS.gr.size (_,l1) (_,l2) hl1 hl2).mono ?_;rintro e w' ⟨v,rfl,ho2,K2⟩;replace hS:=hS.kin K2;clear K2))
     exact HQ.out _ _ _ _ _ ho2 hS.rp hS.gr (zgM _ _ xI4 HPL.out hP1 hP2)
    |false=>
     cases xI5:comesB C.l i ⟨#[105,102]⟩ with
     |true=>
      have I1:Hid (isP C i (-1) ⟨#[105,110,112,117,116]⟩=false):=Lib.hid (by rw[isP_good];exact xI1)
      have I2:Hid (isP C i (-1) ⟨#[97,115,115,101,114,116]⟩=false):=Lib.hid (by rw[isP_good];exact xI2)
      have I3:Hid (isP C i (-1) ⟨#[115,107,105,112]⟩=false):=Lib.hid (by rw[isP_good];exact xI3)
      have I4:Hid (isP C i (-1) ⟨#[119,104,105,108,101]⟩=false):=Lib.hid (by rw[isP_good];exact xI4)
      have I5:Hid (isP C i (-1) ⟨#[105,102]⟩=true):=Lib.hid (by rw[isP_good];exact xI5)
      have hlt:=comes_lt xI5
      have HLT:=Lib.hid hlt
      go_enter Tryz.func48,Tryz.ntmps48
      go_upto_region 23 with(first|(go_at_call 88;with_reducible refine(zr C _ _ _ hS.rp).mono ?_;rintro e w' ⟨rfl,K⟩;replace hS:=hS.kin K;clear q1 qf q3;obtain⟨q1,qf,q3⟩:=hS.rp.at1;skip;clear K)|(go_at_call 46;with_reducible refine(za C _ _ ⟨#[105,110,112,117,116]⟩ _ hS.rp).mono ?_;rintro e w' ⟨rfl,K⟩;replace hS:=hS.kin K;clear q1 qf q3;obtain⟨q1,qf,q3⟩:=hS.rp.at1;skip;rw[I1.out];clear K)|(go_at_call 46;with_reducible refine(za C _ _ ⟨#[97,115,115,101,114,116]⟩ _ hS.rp).mono ?_;rintro e w' ⟨rfl,K⟩;replace hS:=hS.kin K;clear q1 qf q3;obtain⟨q1,qf,q3⟩:=hS.rp.at1;skip;rw[I2.out];clear K)|(go_at_call 46;with_reducible refine(za C _ _ ⟨#[115,107,105,112]⟩ _ hS.rp).mono ?_;rintro e w' ⟨rfl,K⟩;replace hS:=hS.kin K;clear q1 qf q3;obtain⟨q1,qf,q3⟩:=hS.rp.at1;skip;rw[I3.out];clear K)|(go_at_call 46;with_reducible refine(za C _ _ ⟨#[119,104,105,108,101]⟩ _ hS.rp).mono ?_;rintro e w' ⟨rfl,K⟩;replace hS:=hS.kin K;clear q1 qf q3;obtain⟨q1,qf,q3⟩:=hS.rp.at1;skip;rw[I4.out];clear K)|(go_at_call 46;with_reducible refine(za C _ _ ⟨#[105,102]⟩ _ hS.rp).mono ?_;rintro e w' ⟨rfl,K⟩;replace hS:=hS.kin K;clear q1 qf q3;obtain⟨q1,qf,q3⟩:=hS.rp.at1;skip;rw[I5.out];clear K))
      have hS2:=hS.inc2 HLT.out
      generalize World.setCell _ ⟨C.r,1,none⟩ (.int .i64 (((i:Nat):Int)+1))=wI at hS2⊢
      clear hS q1 qf q3
      have hS:=hS2
      clear hS2
      obtain⟨q1,qf,q3⟩:=hS.rp.at1
      go_upto_region 25 with(first|(go_at_call 93;with_reducible refine(HIH.out.expr0 _ _ _ hS.rp hS.vb (by have:=hS.rem;omega)).mono ?_;rintro e w' ⟨v1,l1,j1,b1,rfl,ho,hR,G,hP1⟩;obtain⟨bo1,m1,c1,rfl⟩:=zP ho;skip;have hl1:=lst_of ho hS.gr.size hP1 hR;replace hS:=hS.sub hR G hP1;clear q1 qf q3;obtain⟨q1,qf,q3⟩:=hS.rp.at1;clear ho hR G)|(go_at_call 94;with_reducible refine(HIH.out.block _ _ _ hS.rp hS.vb (by have:=hS.rem;omega)).mono ?_;rintro e w' ⟨v2,l2,j2,b2,rfl,ho,hR,G,hP2⟩;obtain⟨bo2,m2,c2,rfl⟩:=zP ho;replace hl1:=hl1.gr G hrl;have hl2:=lst_of ho hS.gr.size hP2 hR;replace hS:=hS.sub hR G hP2;clear q1 qf q3;obtain⟨q1,qf,q3⟩:=hS.rp.at1;clear ho hR G))
      cases hel:isP C j2 b2 ⟨#[101,108,115,101]⟩ with
      |false=>
       have J:Hid (isP C j2 b2 ⟨#[101,108,115,101]⟩=false):=Lib.hid hel
       clear hel
       go_wp2_with (first|(go_at_call 46;with_reducible refine(za C _ _ ⟨#[101,108,115,101]⟩ _ hS.rp).mono ?_;rintro e w' ⟨rfl,K⟩;replace hS:=hS.kin K;clear q1 qf q3;obtain⟨q1,qf,q3⟩:=hS.rp.at1;replace hl1:=hl1.kin K;replace hl2:=hl2.kin K;rw[J.out];clear K)|(go_at_call 91;with_reducible refine(zaz ⟨0,7,⟨#[]⟩,0,0,placeOf C.l C.e i⟩ w.heap.size _ hS.gr.size (_,l1) (_,l2) hl1 hl2).mono ?_;rintro e w' ⟨v,rfl,ho2,K2⟩;replace hS:=hS.kin K2;clear K2))
       exact HQ.out _ _ _ _ _ ho2 hS.rp hS.gr (zka _ _ xI1 xI2 xI3 xI5 HPL.out hP1 hP2 J.out)
      |true=>
       have J:Hid (isP C j2 b2 ⟨#[101,108,115,101]⟩=true):=Lib.hid hel
       have hlt2:=(isP_lt hel).1
       have HLT:=Lib.hid hlt2
       have hij1:=hP1.1
       have hij2:=hP2.1
       clear hel
       go_upto_region 28 with((go_at_call 46;with_reducible refine(za C _ _ ⟨#[101,108,115,101]⟩ _ hS.rp).mono ?_;rintro e w' ⟨rfl,K⟩;replace hS:=hS.kin K;clear q1 qf q3;obtain⟨q1,qf,q3⟩:=hS.rp.at1;replace hl1:=hl1.kin K;replace hl2:=hl2.kin K;rw[J.out];clear K))
       replace hl1:=hl1.gr ((Gr.refl C.r _).setCell 1 (.int .i64 (((j2:Nat):Int)+1))) hrl
       replace hl2:=hl2.gr ((Gr.refl C.r _).setCell 1 (.int .i64 (((j2:Nat):Int)+1))) hrl
       have hS2:=hS.inc2 HLT.out
       generalize World.setCell _ ⟨C.r,1,none⟩ (.int .i64 (((j2:Nat):Int)+1))=wI at hS2 hl1 hl2⊢
       clear hS q1 qf q3
       have hS:=hS2
       clear hS2
       obtain⟨q1,qf,q3⟩:=hS.rp.at1
       go_wp2_with (first|(go_at_call 94;with_reducible refine(HIH.out.block _ _ _ hS.rp hS.vb (by have:=hS.rem;omega)).mono ?_;rintro e w' ⟨v3,l3,j3,b3,rfl,ho,hR,G,hP3⟩;obtain⟨bo3,m3,c3,rfl⟩:=zP ho;replace hl1:=hl1.gr G hrl;replace hl2:=hl2.gr G hrl;have hl3:=lst_of ho hS.gr.size hP3 hR;replace hS:=hS.sub hR G hP3;clear q1 qf q3;obtain⟨q1,qf,q3⟩:=hS.rp.at1;clear ho hR G)|(go_at_call 91;with_reducible refine(node3 ⟨0,7,⟨#[]⟩,0,0,placeOf C.l C.e i⟩ w.heap.size _ hS.gr.size (_,l1) (_,l2) (_,l3) hl1 hl2 hl3).mono ?_;rintro e w' ⟨v,rfl,ho2,K2⟩;replace hS:=hS.kin K2;clear K2))
       exact HQ.out _ _ _ _ _ ho2 hS.rp hS.gr (zeP _ _ _ xI1 xI2 xI3 xI5 HPL.out hP1 hP2 J.out hP3)
     |false=>
      cases xI7:isP C (nameJ C i (-1)) (zD C i (-1)) ⟨#[91]⟩ with
      |true=>
       have xI6:namedB C.l i=true:=by
        cases hn:namedB C.l i with
        |true=>rfl
        |false=>
         have hb:=(isP_lt xI7).2
         rw[(za0 hn).2] at hb
         have:=HPL.out i
         omega
       have xI7b:=xI7
       rw[(qM xI6).1,(qM xI6).2.1,isP_good] at xI7b
       clear xI7
       have xI7:=xI7b
       clear xI7b
       have I1:Hid (isP C i (-1) ⟨#[105,110,112,117,116]⟩=false):=Lib.hid (by rw[isP_good];exact xI1)
       have I2:Hid (isP C i (-1) ⟨#[97,115,115,101,114,116]⟩=false):=Lib.hid (by rw[isP_good];exact xI2)
       have I3:Hid (isP C i (-1) ⟨#[115,107,105,112]⟩=false):=Lib.hid (by rw[isP_good];exact xI3)
       have I4:Hid (isP C i (-1) ⟨#[119,104,105,108,101]⟩=false):=Lib.hid (by rw[isP_good];exact xI4)
       have I5:Hid (isP C i (-1) ⟨#[105,102]⟩=false):=Lib.hid (by rw[isP_good];exact xI5)
       obtain⟨hnj,hnb,hnt⟩:=qM xI6
       have I7:Hid (isP C (nameJ C i (-1)) (zD C i (-1)) ⟨#[91]⟩=true):=Lib.hid (by rw[hnj,hnb,isP_good];exact xI7)
       have HF:Hid (∀v v2 l l2 j b' j3 b3,PN C (.row 0) (nameJ C i (-1)+1) (zD C i (-1)) l j b'->PN C (.row 0) (zk C (zk C j b' ⟨#[93]⟩) (zn C j b' ⟨#[93]⟩) ⟨#[58,61]⟩) (zn C (zk C j b' ⟨#[93]⟩) (zn C j b' ⟨#[93]⟩) ⟨#[58,61]⟩) l2 j3 b3->PS C i (nodeL ⟨0,3,zV C i (-1),0,0,placeOf C.l C.e i⟩ [(v,l),(v2,l2)]) (zk C j3 b3 ⟨#[59]⟩) (zn C j3 b3 ⟨#[59]⟩)):=Lib.hid (by rw[hnj,hnb,hnt];exact fun v v2 l l2 j b' j3 b3 h1 h2=>zgN v v2 xI6 xI7 HPL.out h1 h2)
       have hlt:=named_lt xI6
       have HLT:Hid (nameJ C i (-1)<C.l.length):=Lib.hid (by rw[hnj];exact comes_lt xI7)
       have hm2:(C.l.length-(nameJ C i (-1)+1)+1)*20+9<N:=by rw[hnj];omega
       have hltJ:=HLT.out
       clear hnj hnb hnt
       go_enter Tryz.func48,Tryz.ntmps48
       go_upto_region 33 with(first|(go_at_call 88;with_reducible refine(zr C _ _ _ hS.rp).mono ?_;rintro e w' ⟨rfl,K⟩;replace hS:=hS.kin K;clear q1 qf q3;obtain⟨q1,qf,q3⟩:=hS.rp.at1;skip;clear K)|(go_at_call 46;with_reducible refine(za C _ _ ⟨#[105,110,112,117,116]⟩ _ hS.rp).mono ?_;rintro e w' ⟨rfl,K⟩;replace hS:=hS.kin K;clear q1 qf q3;obtain⟨q1,qf,q3⟩:=hS.rp.at1;skip;rw[I1.out];clear K)|(go_at_call 46;with_reducible refine(za C _ _ ⟨#[97,115,115,101,114,116]⟩ _ hS.rp).mono ?_;rintro e w' ⟨rfl,K⟩;replace hS:=hS.kin K;clear q1 qf q3;obtain⟨q1,qf,q3⟩:=hS.rp.at1;skip;rw[I2.out];clear K)|(go_at_call 46;with_reducible refine(za C _ _ ⟨#[115,107,105,112]⟩ _ hS.rp).mono ?_;rintro e w' ⟨rfl,K⟩;replace hS:=hS.kin K;clear q1 qf q3;obtain⟨q1,qf,q3⟩:=hS.rp.at1;skip;rw[I3.out];clear K)|(go_at_call 46;with_reducible refine(za C _ _ ⟨#[119,104,105,108,101]⟩ _ hS.rp).mono ?_;rintro e w' ⟨rfl,K⟩;replace hS:=hS.kin K;clear q1 qf q3;obtain⟨q1,qf,q3⟩:=hS.rp.at1;skip;rw[I4.out];clear K)|(go_at_call 46;with_reducible refine(za C _ _ ⟨#[105,102]⟩ _ hS.rp).mono ?_;rintro e w' ⟨rfl,K⟩;replace hS:=hS.kin K;clear q1 qf q3;obtain⟨q1,qf,q3⟩:=hS.rp.at1;skip;rw[I5.out];clear K)|(go_at_call 89;with_reducible refine(xL C _ _ _ hS.rp).mono ?_;rintro e w' ⟨rfl,hR,G⟩;skip;replace hS:=hS.name hR G;clear q1 qf q3;obtain⟨q1,qf,q3⟩:=hS.rp.at1;clear hR G)|(go_at_call 46;with_reducible refine(za C _ _ ⟨#[91]⟩ _ hS.rp).mono ?_;rintro e w' ⟨rfl,K⟩;replace hS:=hS.kin K;clear q1 qf q3;obtain⟨q1,qf,q3⟩:=hS.rp.at1;skip;rw[I7.out];clear K))
       have hS2:=hS.inc2 HLT.out
       generalize World.setCell _ ⟨C.r,1,none⟩ (.int .i64 (((nameJ C i (-1):Nat):Int)+1))=wI at hS2⊢
       clear hS q1 qf q3
       have hS:=hS2
       clear hS2
       obtain⟨q1,qf,q3⟩:=hS.rp.at1
       go_upto_region 36 with(first|(go_at_call 93;with_reducible refine(HIH.out.expr0 _ _ _ hS.rp hS.vb (by have:=hS.rem;omega)).mono ?_;rintro e w' ⟨v1,l1,j1,b1,rfl,ho,hR,G,hP1⟩;obtain⟨bo1,m1,c1,rfl⟩:=zP ho;skip;have hl1:=lst_of ho hS.gr.size hP1 hR;replace hS:=hS.sub hR G hP1;clear q1 qf q3;obtain⟨q1,qf,q3⟩:=hS.rp.at1;clear ho hR G)|(go_at_call 90;with_reducible refine(zA C _ _ ⟨#[93]⟩ _ hS.rp).mono ?_;rintro e w' ⟨rfl,hR,hG⟩;have G:=Gr.of_grew hG;replace hl1:=hl1.gr G hrl;replace hS:=hS.take hR hG;clear q1 qf q3;obtain⟨q1,qf,q3⟩:=hS.rp.at1;clear hR hG G)|(go_at_call 90;with_reducible refine(zA C _ _ ⟨#[58,61]⟩ _ hS.rp).mono ?_;rintro e w' ⟨rfl,hR,hG⟩;have G:=Gr.of_grew hG;replace hl1:=hl1.gr G hrl;replace hS:=hS.take hR hG;clear q1 qf q3;obtain⟨q1,qf,q3⟩:=hS.rp.at1;clear hR hG G))
       go_wp2_with (first|(go_at_call 93;with_reducible refine(HIH.out.expr0 _ _ _ hS.rp hS.vb (by have:=hS.rem;omega)).mono ?_;rintro e w' ⟨v2,l2,j2,b2,rfl,ho,hR,G,hP2⟩;obtain⟨bo2,m2,c2,rfl⟩:=zP ho;replace hl1:=hl1.gr G hrl;have hl2:=lst_of ho hS.gr.size hP2 hR;replace hS:=hS.sub hR G hP2;clear q1 qf q3;obtain⟨q1,qf,q3⟩:=hS.rp.at1;clear ho hR G)|(go_at_call 90;with_reducible refine(zA C _ _ ⟨#[59]⟩ _ hS.rp).mono ?_;rintro e w' ⟨rfl,hR,hG⟩;have G:=Gr.of_grew hG;replace hl1:=hl1.gr G hrl;replace hl2:=hl2.gr G hrl;replace hS:=hS.take hR hG;clear q1 qf q3;obtain⟨q1,qf,q3⟩:=hS.rp.at1;clear hR hG G)|(go_at_call 91;with_reducible refine(zaz ⟨0,3,zV C i (-1),0,0,placeOf C.l C.e i⟩ w.heap.size _ hS.gr.size (_,l1) (_,l2) hl1 hl2).mono ?_;rintro e w' ⟨v,rfl,ho2,K2⟩;replace hS:=hS.kin K2;clear K2))
       exact HQ.out _ _ _ _ _ ho2 hS.rp hS.gr (HF.out _ _ _ _ _ _ _ _ hP1 hP2)
      |false=>
       have I1:Hid (isP C i (-1) ⟨#[105,110,112,117,116]⟩=false):=Lib.hid (by rw[isP_good];exact xI1)
       have I2:Hid (isP C i (-1) ⟨#[97,115,115,101,114,116]⟩=false):=Lib.hid (by rw[isP_good];exact xI2)
       have I3:Hid (isP C i (-1) ⟨#[115,107,105,112]⟩=false):=Lib.hid (by rw[isP_good];exact xI3)
       have I4:Hid (isP C i (-1) ⟨#[119,104,105,108,101]⟩=false):=Lib.hid (by rw[isP_good];exact xI4)
       have I5:Hid (isP C i (-1) ⟨#[105,102]⟩=false):=Lib.hid (by rw[isP_good];exact xI5)
       have I7:Hid (isP C (nameJ C i (-1)) (zD C i (-1)) ⟨#[91]⟩=false):=Lib.hid xI7
       go_enter Tryz.func48,Tryz.ntmps48
       go_wp2_with (first|(go_at_call 88;with_reducible refine(zr C _ _ _ hS.rp).mono ?_;rintro e w' ⟨rfl,K⟩;replace hS:=hS.kin K;clear q1 qf q3;obtain⟨q1,qf,q3⟩:=hS.rp.at1;skip;clear K)|(go_at_call 46;with_reducible refine(za C _ _ ⟨#[105,110,112,117,116]⟩ _ hS.rp).mono ?_;rintro e w' ⟨rfl,K⟩;replace hS:=hS.kin K;clear q1 qf q3;obtain⟨q1,qf,q3⟩:=hS.rp.at1;skip;rw[I1.out];clear K)|(go_at_call 46;with_reducible refine(za C _ _ ⟨#[97,115,115,101,114,116]⟩ _ hS.rp).mono ?_;rintro e w' ⟨rfl,K⟩;replace hS:=hS.kin K;clear q1 qf q3;obtain⟨q1,qf,q3⟩:=hS.rp.at1;skip;rw[I2.out];clear K)|(go_at_call 46;with_reducible refine(za C _ _ ⟨#[115,107,105,112]⟩ _ hS.rp).mono ?_;rintro e w' ⟨rfl,K⟩;replace hS:=hS.kin K;clear q1 qf q3;obtain⟨q1,qf,q3⟩:=hS.rp.at1;skip;rw[I3.out];clear K)|(go_at_call 46;with_reducible refine(za C _ _ ⟨#[119,104,105,108,101]⟩ _ hS.rp).mono ?_;rintro e w' ⟨rfl,K⟩;replace hS:=hS.kin K;clear q1 qf q3;obtain⟨q1,qf,q3⟩:=hS.rp.at1;skip;rw[I4.out];clear K)|(go_at_call 46;with_reducible refine(za C _ _ ⟨#[105,102]⟩ _ hS.rp).mono ?_;rintro e w' ⟨rfl,K⟩;replace hS:=hS.kin K;clear q1 qf q3;obtain⟨q1,qf,q3⟩:=hS.rp.at1;skip;rw[I5.out];clear K)|(go_at_call 89;with_reducible refine(xL C _ _ _ hS.rp).mono ?_;rintro e w' ⟨rfl,hR,G⟩;skip;replace hS:=hS.name hR G;clear q1 qf q3;obtain⟨q1,qf,q3⟩:=hS.rp.at1;clear hR G)|(go_at_call 46;with_reducible refine(za C _ _ ⟨#[91]⟩ _ hS.rp).mono ?_;rintro e w' ⟨rfl,K⟩;replace hS:=hS.kin K;clear q1 qf q3;obtain⟨q1,qf,q3⟩:=hS.rp.at1;skip;rw[I7.out];clear K)|(go_at_call 90;with_reducible refine(zA C _ _ ⟨#[58,61]⟩ _ hS.rp).mono ?_;rintro e w' ⟨rfl,hR,hG⟩;have G:=Gr.of_grew hG;skip;replace hS:=hS.take hR hG;clear q1 qf q3;obtain⟨q1,qf,q3⟩:=hS.rp.at1;clear hR hG G)|(go_at_call 93;with_reducible refine(HIH.out.expr0 _ _ _ hS.rp hS.vb (by have:=hS.rem;omega)).mono ?_;rintro e w' ⟨v1,l1,j1,b1,rfl,ho,hR,G,hP1⟩;obtain⟨bo1,m1,c1,rfl⟩:=zP ho;skip;have hl1:=lst_of ho hS.gr.size hP1 hR;replace hS:=hS.sub hR G hP1;clear q1 qf q3;obtain⟨q1,qf,q3⟩:=hS.rp.at1;clear ho hR G)|(go_at_call 90;with_reducible refine(zA C _ _ ⟨#[59]⟩ _ hS.rp).mono ?_;rintro e w' ⟨rfl,hR,hG⟩;have G:=Gr.of_grew hG;replace hl1:=hl1.gr G hrl;replace hS:=hS.take hR hG;clear q1 qf q3;obtain⟨q1,qf,q3⟩:=hS.rp.at1;clear hR hG G)|(go_at_call 91;with_reducible refine(node1 ⟨0,2,zV C i (-1),0,0,placeOf C.l C.e i⟩ w.heap.size _ hS.gr.size (_,l1) hl1).mono ?_;rintro e w' ⟨v,rfl,ho2,K2⟩;replace hS:=hS.kin K2;clear K2))
       exact HQ.out _ _ _ _ _ ho2 hS.rp hS.gr (zeQ _ xI1 xI2 xI3 xI4 xI5 I7.out HPL.out hP1)
theorem zdB{C:Ctx}{i:Nat}{b:Int}(h:numP C i b=true):b<0/\∃t,C.l[i]? =some t/\t.kind=1/\numN C i b=t.num/\numJ C i b=i+1/\numB C i b=b:=by
 have h':=h
 unfold numP at h'
 rw[Bool.and_eq_true,decide_eq_true_eq] at h'
 obtain⟨h1,h2⟩:=h'
 have e:numN C i b=numAtT C.l i:=by unfold numN;rw[if_pos h]
 have e2:numJ C i b=i+1:=by unfold numJ;rw[if_pos h]
 have e3:numB C i b=b:=by unfold numB;rw[if_pos h]
 unfold numbB at h2
 unfold numAtT at e
 split at h2
 ·rename_i t ht
  try rw[ht] at e
  exact⟨h1,t,ht,of_decide_eq_true h2,e,e2,e3⟩
 ·cases h2
theorem numP_not{C:Ctx}{i:Nat}{b:Int}(h:¬numP C i b=true):numN C i b=0/\numJ C i b=i/\numB C i b=bad1 C i b/\(b<0->∀t,C.l[i]? =some t->t.kind≠1):=by
 refine⟨by unfold numN;rw[if_neg h],by unfold numJ;rw[if_neg h],by unfold numB;rw[if_neg h],fun hb t ht hk=>h ?_⟩
 unfold numP numbB
 rw[ht]
 simp[hb,hk]
theorem wn{C:Ctx}(i:Nat)(w:World)(h:RP C i (-1) w)(hc:comesB C.l i ⟨#[118,97,114]⟩=true\/comesB C.l i ⟨#[97,114,114,97,121]⟩=true):Calls Tryz.prog 47 #[.pointer (some ⟨C.r,0,none⟩)] w (yG C w (PD C i)):=by
 have hS:=PSt.start h (.inl rfl)
 have hrl:=h.lt
 have hlen:=h.len
 have HPL:Hid (∀k,0<=placeOf C.l C.e k):=Lib.hid (yA h)
 obtain⟨q1,qf,q3⟩:=h.at1
 generalize hQ:yG C w (PD C i)=Q
 have HQ:Hid (∀v l j b' w',w'.ownsRow w.heap.size 50 6 v l.length (ndCells l)->RP C j b' w'->Gr C.r w w'->PD C i l j b'->Q (.returned v) w'):=Lib.hid (fun v l j b' w' h1 h2 h3 h4=>by rw[<-hQ];exact⟨v,l,j,b',rfl,h1,h2,h3,h4⟩)
 clear hQ h
 have hlt:i<C.l.length:=by rcases hc with h|h<;>exact comes_lt h
 have HLT:=Lib.hid hlt
 cases xI1:comesB C.l i ⟨#[97,114,114,97,121]⟩ with
 |false=>
  have hv:comesB C.l i ⟨#[118,97,114]⟩=true:=by rcases hc with h|h;exact h;rw[xI1] at h;cases h
  have I1:Hid (isP C i (-1) ⟨#[97,114,114,97,121]⟩=false):=Lib.hid (by rw[isP_good];exact xI1)
  have HF:=Lib.hid (zju hv HPL.out)
  clear hc
  go_enter Tryz.func47,Tryz.ntmps47
  go_upto_region 4 with(first|(go_at_call 88;with_reducible refine(zr C _ _ _ hS.rp).mono ?_;rintro e w' ⟨rfl,K⟩;replace hS:=hS.kin K;clear q1 qf q3;obtain⟨q1,qf,q3⟩:=hS.rp.at1;skip;clear K)|(go_at_call 46;with_reducible refine(za C _ _ ⟨#[97,114,114,97,121]⟩ _ hS.rp).mono ?_;rintro e w' ⟨rfl,K⟩;replace hS:=hS.kin K;clear q1 qf q3;obtain⟨q1,qf,q3⟩:=hS.rp.at1;skip;rw[I1.out];clear K))
  have hS2:=hS.inc2 HLT.out
  generalize World.setCell _ ⟨C.r,1,none⟩ (.int .i64 (((i:Nat):Int)+1))=wI at hS2⊢
  clear hS q1 qf q3
  have hS:=hS2
  clear hS2
  obtain⟨q1,qf,q3⟩:=hS.rp.at1
  go_wp2_with (first|(go_at_call 89;with_reducible refine(xL C _ _ _ hS.rp).mono ?_;rintro e w' ⟨rfl,hR,G⟩;skip;replace hS:=hS.name hR G;clear q1 qf q3;obtain⟨q1,qf,q3⟩:=hS.rp.at1;clear hR G)|(go_at_call 90;with_reducible refine(zA C _ _ ⟨#[59]⟩ _ hS.rp).mono ?_;rintro e w' ⟨rfl,hR,hG⟩;have G:=Gr.of_grew hG;skip;replace hS:=hS.take hR hG;clear q1 qf q3;obtain⟨q1,qf,q3⟩:=hS.rp.at1;clear hR hG G)|(go_at_call 91;with_reducible refine(qT ⟨0,0,zV C (i+1) (-1),0,0,placeOf C.l C.e i⟩ w.heap.size _ hS.gr.size).mono ?_;rintro e w' ⟨v,rfl,ho2,K2⟩;replace hS:=hS.kin K2;clear K2))
  exact HQ.out _ _ _ _ _ ho2 hS.rp hS.gr HF.out
 |true=>
  have hv:comesB C.l i ⟨#[118,97,114]⟩=false:=yX xI1 (by kernel_rfl)
  have I1:Hid (isP C i (-1) ⟨#[97,114,114,97,121]⟩=true):=Lib.hid (by rw[isP_good];exact xI1)
  obtain⟨j2,hj2⟩:∃x,zk C (nameJ C (i+1) (-1)) (zD C (i+1) (-1)) ⟨#[91]⟩=x:=⟨_,rfl⟩
  obtain⟨b2,hb2⟩:∃x,zn C (nameJ C (i+1) (-1)) (zD C (i+1) (-1)) ⟨#[91]⟩=x:=⟨_,rfl⟩
  have HA:Hid (∀n j3 b3,numN C j2 b2=n->numJ C j2 b2=j3->numB C j2 b2=b3->PD C i (nodeL ⟨0,1,zV C (i+1) (-1),n,0,placeOf C.l C.e i⟩ []) (zk C (zk C j3 b3 ⟨#[93]⟩) (zn C j3 b3 ⟨#[93]⟩) ⟨#[59]⟩) (zn C (zk C j3 b3 ⟨#[93]⟩) (zn C j3 b3 ⟨#[93]⟩) ⟨#[59]⟩)):=Lib.hid (fun n j3 b3 e1 e2 e3=>by
   rw[<-e1]
   exact zgU hv xI1 HPL.out ⟨rfl,rfl⟩ ⟨hj2,hb2⟩ ⟨e2,e3⟩ ⟨rfl,rfl⟩ ⟨rfl,rfl⟩)
  clear hc
  go_enter Tryz.func47,Tryz.ntmps47
  go_upto_region 4 with(first|(go_at_call 88;with_reducible refine(zr C _ _ _ hS.rp).mono ?_;rintro e w' ⟨rfl,K⟩;replace hS:=hS.kin K;clear q1 qf q3;obtain⟨q1,qf,q3⟩:=hS.rp.at1;skip;clear K)|(go_at_call 46;with_reducible refine(za C _ _ ⟨#[97,114,114,97,121]⟩ _ hS.rp).mono ?_;rintro e w' ⟨rfl,K⟩;replace hS:=hS.kin K;clear q1 qf q3;obtain⟨q1,qf,q3⟩:=hS.rp.at1;skip;rw[I1.out];clear K))
  have hS2:=hS.inc2 HLT.out
  generalize World.setCell _ ⟨C.r,1,none⟩ (.int .i64 (((i:Nat):Int)+1))=wI at hS2⊢
  clear hS q1 qf q3
  have hS:=hS2
  clear hS2
  obtain⟨q1,qf,q3⟩:=hS.rp.at1
  go_wp2_with (first|(go_at_call 89;with_reducible refine(xL C _ _ _ hS.rp).mono ?_;rintro e w' ⟨rfl,hR,G⟩;skip;replace hS:=hS.name hR G;clear q1 qf q3;obtain⟨q1,qf,q3⟩:=hS.rp.at1;clear hR G)|(go_at_call 90;with_reducible refine(zA C _ _ ⟨#[91]⟩ _ hS.rp).mono ?_;rintro e w' ⟨rfl,hR,hG⟩;have G:=Gr.of_grew hG;skip;replace hS:=hS.take hR hG;clear q1 qf q3;obtain⟨q1,qf,q3⟩:=hS.rp.at1;clear hR hG G))
  rw[hj2,hb2] at hS
  clear q1 qf q3
  obtain⟨q1,qf,q3⟩:=hS.rp.at1
  clear hj2
  by_cases hn:numP C j2 b2=true
  ·obtain⟨hbn,t,ht,hk,e1,e2,e3⟩:=zdB hn
   obtain rfl:b2= -1:=by rcases hS.vb with h|h<;>omega
   have HT:=Lib.hid ht
   have hlt2:j2<C.l.length:=(List.getElem?_eq_some_iff.1 ht).1
   have HLT2:=Lib.hid hlt2
   have HF:=Lib.hid (HA.out _ _ _ e1 e2 e3)
   have hk1:(t.kind==1)=true:=by simp[hk]
   clear ht e1 e2 e3 hn
   obtain⟨cap,hcap,q0,_,_,_,tk,tn,hrg⟩:=hS.rp.full HT.out
   rw[hk] at tk
   go_quiet (fail)
   rename_i nq
   replace hS:=hS.kin ((Kin.refl _).drewN nq)
   generalize World.drewN _ nq=wq at hS⊢
   clear q1 qf q3
   obtain⟨q1,qf,q3⟩:=hS.rp.at1
   clear q0 tk tn hcap
   obtain⟨cap,hcap,q0,_,_,_,tk,tn,hrg⟩:=hS.rp.full HT.out
   rw[hk] at tk
   go_wp2_with fail
   go_quiet (fail)
   rename_i nq
   replace hS:=hS.kin ((Kin.refl _).drewN nq)
   generalize World.drewN _ nq=wq at hS⊢
   clear q1 qf q3
   obtain⟨q1,qf,q3⟩:=hS.rp.at1
   clear q0 tk tn hcap
   go_upto_region 14 with fail
   have hS2:=hS.inc2 HLT2.out
   generalize World.setCell _ ⟨C.r,1,none⟩ (.int .i64 (((j2:Nat):Int)+1))=wI at hS2⊢
   clear hS q1 qf q3
   have hS:=hS2
   clear hS2
   obtain⟨q1,qf,q3⟩:=hS.rp.at1
   go_wp2_with (first|(go_at_call 90;with_reducible refine(zA C _ _ ⟨#[93]⟩ _ hS.rp).mono ?_;rintro e w' ⟨rfl,hR,hG⟩;have G:=Gr.of_grew hG;skip;replace hS:=hS.take hR hG;clear q1 qf q3;obtain⟨q1,qf,q3⟩:=hS.rp.at1;clear hR hG G)|(go_at_call 90;with_reducible refine(zA C _ _ ⟨#[59]⟩ _ hS.rp).mono ?_;rintro e w' ⟨rfl,hR,hG⟩;have G:=Gr.of_grew hG;skip;replace hS:=hS.take hR hG;clear q1 qf q3;obtain⟨q1,qf,q3⟩:=hS.rp.at1;clear hR hG G)|(go_at_call 91;with_reducible refine(qT ⟨0,1,zV C (i+1) (-1),t.num,0,placeOf C.l C.e i⟩ w.heap.size _ hS.gr.size).mono ?_;rintro e w' ⟨v,rfl,ho2,K2⟩;replace hS:=hS.kin K2;clear K2))
   exact HQ.out _ _ _ _ _ ho2 hS.rp hS.gr HF.out
  ·obtain⟨e1,e2,e3,e4⟩:=numP_not hn
   have HF:=Lib.hid (HA.out _ _ _ e1 e2 e3)
   clear hn e1 e2 e3
   rcases hS.vb with hb|hb
   ·obtain rfl:=hb
    have e5:=e4 (by omega)
    by_cases hlt2:j2<C.l.length
    ·obtain⟨t,ht⟩:∃t,C.l[j2]? =some t:=⟨_,List.getElem?_eq_getElem hlt2⟩
     have hk:=e5 t ht
     have hk1:(t.kind==1)=false:=by simp[hk]
     have HT:=Lib.hid ht
     clear ht e4 e5
     obtain⟨cap,hcap,q0,_,_,_,tk,tn,hrg⟩:=hS.rp.full HT.out
     go_quiet (fail)
     rename_i nq
     replace hS:=hS.kin ((Kin.refl _).drewN nq)
     generalize World.drewN _ nq=wq at hS⊢
     clear q1 qf q3
     obtain⟨q1,qf,q3⟩:=hS.rp.at1
     clear q0 tk tn hcap
     go_wp2_with (first|(go_at_call 92;with_reducible refine(xJ C _ _ _ hS.rp).mono ?_;rintro e w' ⟨rfl,hR,hG⟩;have G:=Gr.of_grew hG;skip;replace hS:=hS.fail hR hG;clear q1 qf q3;obtain⟨q1,qf,q3⟩:=hS.rp.at1;clear hR hG G)|(go_at_call 90;with_reducible refine(zA C _ _ ⟨#[93]⟩ _ hS.rp).mono ?_;rintro e w' ⟨rfl,hR,hG⟩;have G:=Gr.of_grew hG;skip;replace hS:=hS.take hR hG;clear q1 qf q3;obtain⟨q1,qf,q3⟩:=hS.rp.at1;clear hR hG G)|(go_at_call 90;with_reducible refine(zA C _ _ ⟨#[59]⟩ _ hS.rp).mono ?_;rintro e w' ⟨rfl,hR,hG⟩;have G:=Gr.of_grew hG;skip;replace hS:=hS.take hR hG;clear q1 qf q3;obtain⟨q1,qf,q3⟩:=hS.rp.at1;clear hR hG G)|(go_at_call 91;with_reducible refine(qT ⟨0,1,zV C (i+1) (-1),0,0,placeOf C.l C.e i⟩ w.heap.size _ hS.gr.size).mono ?_;rintro e w' ⟨v,rfl,ho2,K2⟩;replace hS:=hS.kin K2;clear K2))
     exact HQ.out _ _ _ _ _ ho2 hS.rp hS.gr HF.out
    ·have hdd:decide ((j2:Int)<(C.l.length:Int))=false:=decide_eq_false (by omega)
     obtain⟨bo,cap,hbo,hcap,q0,_⟩:=hS.rp.cells
     clear hbo e4 e5
     go_quiet (fail)
     rename_i nq
     replace hS:=hS.kin ((Kin.refl _).drewN nq)
     generalize World.drewN _ nq=wq at hS⊢
     clear q1 qf q3
     obtain⟨q1,qf,q3⟩:=hS.rp.at1
     clear q0 hcap
     go_wp2_with (first|(go_at_call 92;with_reducible refine(xJ C _ _ _ hS.rp).mono ?_;rintro e w' ⟨rfl,hR,hG⟩;have G:=Gr.of_grew hG;skip;replace hS:=hS.fail hR hG;clear q1 qf q3;obtain⟨q1,qf,q3⟩:=hS.rp.at1;clear hR hG G)|(go_at_call 90;with_reducible refine(zA C _ _ ⟨#[93]⟩ _ hS.rp).mono ?_;rintro e w' ⟨rfl,hR,hG⟩;have G:=Gr.of_grew hG;skip;replace hS:=hS.take hR hG;clear q1 qf q3;obtain⟨q1,qf,q3⟩:=hS.rp.at1;clear hR hG G)|(go_at_call 90;with_reducible refine(zA C _ _ ⟨#[59]⟩ _ hS.rp).mono ?_;rintro e w' ⟨rfl,hR,hG⟩;have G:=Gr.of_grew hG;skip;replace hS:=hS.take hR hG;clear q1 qf q3;obtain⟨q1,qf,q3⟩:=hS.rp.at1;clear hR hG G)|(go_at_call 91;with_reducible refine(qT ⟨0,1,zV C (i+1) (-1),0,0,placeOf C.l C.e i⟩ w.heap.size _ hS.gr.size).mono ?_;rintro e w' ⟨v,rfl,ho2,K2⟩;replace hS:=hS.kin K2;clear K2))
     exact HQ.out _ _ _ _ _ ho2 hS.rp hS.gr HF.out
   ·have hd:decide (b2<0)=false:=decide_eq_false (by omega)
    obtain⟨bo,cap,hbo,hcap,q0,_⟩:=hS.rp.cells
    clear hbo e4
    go_quiet (fail)
    rename_i nq
    replace hS:=hS.kin ((Kin.refl _).drewN nq)
    generalize World.drewN _ nq=wq at hS⊢
    clear q1 qf q3
    obtain⟨q1,qf,q3⟩:=hS.rp.at1
    clear q0 hcap
    go_wp2_with (first|(go_at_call 92;with_reducible refine(xJ C _ _ _ hS.rp).mono ?_;rintro e w' ⟨rfl,hR,hG⟩;have G:=Gr.of_grew hG;skip;replace hS:=hS.fail hR hG;clear q1 qf q3;obtain⟨q1,qf,q3⟩:=hS.rp.at1;clear hR hG G)|(go_at_call 90;with_reducible refine(zA C _ _ ⟨#[93]⟩ _ hS.rp).mono ?_;rintro e w' ⟨rfl,hR,hG⟩;have G:=Gr.of_grew hG;skip;replace hS:=hS.take hR hG;clear q1 qf q3;obtain⟨q1,qf,q3⟩:=hS.rp.at1;clear hR hG G)|(go_at_call 90;with_reducible refine(zA C _ _ ⟨#[59]⟩ _ hS.rp).mono ?_;rintro e w' ⟨rfl,hR,hG⟩;have G:=Gr.of_grew hG;skip;replace hS:=hS.take hR hG;clear q1 qf q3;obtain⟨q1,qf,q3⟩:=hS.rp.at1;clear hR hG G)|(go_at_call 91;with_reducible refine(qT ⟨0,1,zV C (i+1) (-1),0,0,placeOf C.l C.e i⟩ w.heap.size _ hS.gr.size).mono ?_;rintro e w' ⟨v,rfl,ho2,K2⟩;replace hS:=hS.kin K2;clear K2))
    exact HQ.out _ _ _ _ _ ho2 hS.rp hS.gr HF.out
theorem zhu(s:ByteArray):∀f i t,t∈cutF s f i->∃j,t=itemAt s j/\j<s.size:=by
 intro f
 induction f with
 |zero=>intro i t h;cases h
 |succ f ih=>
  intro i t h
  unfold cutF at h
  split at h
  ·rename_i hi
   split at h
   ·rcases List.mem_cons.1 h with rfl|h
    ·exact⟨i,rfl,hi⟩
    ·exact ih _ _ h
   ·rw[List.mem_singleton.1 h]
    exact⟨i,rfl,hi⟩
  ·cases h
theorem good_mem{s:ByteArray}{t:Item}(h:t∈zd (pieces s)):∃j,t=itemAt s j/\j<s.size/\t.code=0:=by
 unfold zd at h
 rw[List.mem_filter] at h
 obtain⟨j,h1,h2⟩:=zhu s _ _ _ h.1
 exact⟨j,h1,h2,by simpa using h.2⟩
theorem vO{s:ByteArray}{j:Nat}(hj:j<s.size)(hc:(itemAt s j).code=0):(itemAt s j).pos=j/\(((itemAt s j).kind=0/\letterAt s j=true/\(itemAt s j).text=s.extract j (upto zH s j))\/(itemAt s j).kind=1\/(itemAt s j).kind=2):=by
 unfold itemAt at hc⊢
 split at hc
 ·rename_i hl
  rw[if_pos hl]
  unfold wordAt at hc⊢
  split at hc
  ·simp at hc
  ·rename_i h16
   rw[if_neg h16]
   exact⟨rfl, .inl ⟨rfl,hl,rfl⟩⟩
 ·rename_i hl
  rw[if_neg hl]
  split at hc
  ·rename_i hd
   rw[if_pos hd]
   unfold numAt at hc⊢
   split at hc
   ·simp at hc
   ·rename_i h16
    rw[if_neg h16]
    exact⟨rfl, .inr (.inl rfl)⟩
  ·rename_i hd
   rw[if_neg hd]
   split at hc
   ·simp at hc
   ·rename_i h16
    rw[if_neg h16]
    exact⟨rfl, .inr (.inr rfl)⟩
theorem word_first{s:ByteArray}{j:Nat}(hj:j<s.size)(h:letterAt s j=true):∃c r,(s.extract j (upto zH s j)).toList=c::r/\isLetter c.toNat=true:=by
 unfold letterAt at h
 rw[dif_pos hj] at h
 have hal:zH (s[j]).toNat=true:=by unfold zH;simp[h]
 have hp:=uE hj hal
 have hk:=(upto_spec zH s j (by omega)).2.1
 have hsz:0<(s.extract j (upto zH s j)).size:=by rw[ByteArray.size_extract];omega
 obtain⟨h2,e⟩:=kF s j _ 0 hk hsz
 have hl:(s.extract j (upto zH s j)).toList[0]? =some ((s.extract j (upto zH s j))[0]):=by
  rw[ByteArray.toList_eq,Array.getElem?_toList]
  exact Array.getElem?_eq_getElem hsz
 cases hx:(s.extract j (upto zH s j)).toList with
 |nil=>rw[hx] at hl;simp at hl
 |cons c r=>
  rw[hx] at hl
  simp only[List.getElem?_cons_zero,Option.some.injEq] at hl
  refine⟨c,r,rfl,?_⟩
  rw[hl,e]
  simpa using h
theorem zeX(k:Nat):∀q∈opsOf k,∃c r,q.1=c::r/\isLetter c.toNat=false:=by
 rcases k with _|_|_|_|k<;>simp[opsOf,isLetter]
theorem lexOk_of(s:ByteArray):uo (zd (pieces s)):=by
 intro t ht hk1 hk2 k
 obtain⟨j,rfl,hj,hc⟩:=good_mem ht
 obtain⟨_,⟨_,hl,htx⟩|h|h⟩:=vO hj hc
 ·obtain⟨c,r,hcr,hlc⟩:=word_first hj hl
  rw[htx,hcr]
  refine lookup_no _ fun m q hq e=>?_
  obtain⟨c',r',h1,h2⟩:=zeX k q (List.mem_of_getElem? hq)
  rw[h1] at e
  cases e
  rw[hlc] at h2
  cases h2
 ·exact absurd h hk1
 ·exact absurd h hk2
theorem wdOk_of(s:ByteArray):WdOk (zd (pieces s)):=by
 intro t ht hk0 e
 obtain⟨j,rfl,hj,hc⟩:=good_mem ht
 obtain⟨_,⟨_,hl,htx⟩|h|h⟩:=vO hj hc
 ·obtain⟨c,r,hcr,hlc⟩:=word_first hj hl
  rw[htx,hcr] at e
  cases e
  revert hlc
  decide
 ·omega
 ·omega
theorem pos_of(s:ByteArray):∀t∈zd (pieces s),0<=t.pos:=by
 intro t ht
 obtain⟨j,rfl,hj,hc⟩:=good_mem ht
 rw[(vO hj hc).1]
 omega
theorem zhk(s:ByteArray)(hs:s.size<=8192):(zd (pieces s)).length<=8193:=by
 have a1:=jC s
 have a2:(zd (pieces s)).length<=(pieces s).length:=List.length_filter_le _ _
 omega
def ctxR(s:ByteArray)(r:Nat)(sl:Value):Ctx:=ctxOf s 0 undef r sl
theorem zgI(s:ByteArray)(sl:Value)(B:Nat)(w1:World)(hown:w1.ownsRow B 140 4 sl (zd (pieces s)).length (flatToks (zd (pieces s))))(hL:(zd (pieces s)).length<=8193):
 RP (ctxR s w1.heap.size sl) 0 (-1) (w1.alloc (.cells #[sl, .int .i64 0, .int .i64 s.size, .int .i64 (-1)] 93)):=by
 have c0:=heap_alloc_new w1 (.cells #[sl, .int .i64 0, .int .i64 s.size, .int .i64 (-1)] 93)
 have hkeep:∀{n o:Nat} {v:Value},w1.cell? ⟨n,o,none⟩=some v->(w1.alloc (.cells #[sl, .int .i64 0, .int .i64 s.size, .int .i64 (-1)] 93)).cell? ⟨n,o,none⟩=some v:=fun h=>(World.grownBy_alloc w1 _ none).cell h (by simp)
 rcases hown.2 with⟨rfl,hn⟩|⟨g,cap,cur,rfl,hb,hg,hn,hm,hsz,htake⟩
 ·have hnil:zd (pieces s)=[]:=List.eq_nil_of_length_eq_zero hn
  refine⟨⟨none,0,by refine c0.trans ?_;simp[ctxR,ctxOf,hnil],fun h=>absurd hnil h,by simp[ctxR,ctxOf,hnil]⟩,⟨?_,?_,?_,?_⟩,fun h=>absurd hnil h,Nat.zero_le _,hL,pos_of s,by simp[ctxR,ctxOf]⟩<;>
   (intro j t hj;simp[ctxR,ctxOf,hnil] at hj)
 ·have cells:∀(j:Nat) (t:Item),(zd (pieces s))[j]? =some t->∀k v,k<4->(tokCells t)[k]? =some v->(w1.alloc (.cells #[.slice (some ⟨g,0,none⟩) (zd (pieces s)).length cap, .int .i64 0, .int .i64 s.size, .int .i64 (-1)] 93)).cell? ⟨g,j*4+k,none⟩=some v:=by
   intro j t hj k v hk hv
   refine hkeep ?_
   have:=hown.cells rfl (j*4+k) v ((zba hj k hk).trans hv)
   rw[show((⟨g,0,none⟩:Addr).add (j*4+k))=⟨g,j*4+k,none⟩ from by unfold Addr.add;split<;>simp_all] at this
   exact this
  have hgl:g<w1.heap.size:=(Array.getElem?_eq_some_iff.1 hg).1
  exact⟨⟨_,cap,c0,fun _=>rfl,hn⟩,⟨fun j t hj=>cells j t hj 0 _ (by omega) rfl,fun j t hj=>cells j t hj 1 _ (by omega) rfl,fun j t hj=>cells j t hj 2 _ (by omega) rfl,fun j t hj=>cells j t hj 3 _ (by omega) rfl⟩,fun _=>by show g≠w1.heap.size;omega,Nat.zero_le _,hL,pos_of s,by simp[ctxR,ctxOf]⟩
theorem pall{C:Ctx}(hL:uo C.l)(hW:WdOk C.l):∀N,PAll C N
 |0=>⟨fun _ _ _ _ _ _ _ h=>absurd h (Nat.not_lt_zero _),fun _ _ _ _ _ h=>absurd h (Nat.not_lt_zero _),fun _ _ _ _ _ h=>absurd h (Nat.not_lt_zero _),fun _ _ _ _ _ h=>absurd h (Nat.not_lt_zero _),fun _ _ _ h=>absurd h (Nat.not_lt_zero _)⟩
 |N+1=>have IH:=pall hL hW N
  ⟨fun k i b w hk h hv hm=>zdo IH hL k i hk b w h hv (by omega),fun i b w h hv hm=>zcY IH i b w h hv (by omega),fun i b w h hv hm=>zfA IH i b w h hv (by omega),fun i b w h hv hm=>zbT IH hW i b w h hv (by omega),fun i w h hm=>zdm IH i w h (by omega)⟩
theorem zeK{C:Ctx}(hL:uo C.l)(hW:WdOk C.l)(i:Nat)(w:World)(h:RP C i (-1) w):Calls Tryz.prog 48 #[.pointer (some ⟨C.r,0,none⟩)] w (yG C w (PS C i)):=
 (pall hL hW _).stmt i w h (Nat.lt_succ_self _)
theorem zfh{w w1 wr:World}{o:Obj}{r:Nat}(K:Kin w w1)(hr:r=w1.heap.size)(G:Gr r (w1.alloc o) wr):Kin w wr:=by
 subst hr
 have g:=World.grownBy_alloc w1 o none
 have s:=g.size
 exact⟨G.os.trans K.os,G.out.trans K.out,Nat.le_trans K.size (Nat.le_trans s G.size),fun k hk=>(G.block k (by have:=K.size;omega) (by have:=K.size;omega)).trans ((g.block k (by have:=K.size;omega) (by simp)).trans (K.block k hk))⟩
def RPar(o:POut)(w:World)(e:Ending)(w':World):Prop:=Kin w w'/\match o with
 | .tree l=>∃sl,e= .returned (.tuple #[sl, .int .i64 0, .int .i64 0])/\w'.ownsRow w.heap.size 50 6 sl l.length (ndCells l)
 | .fault k p=>e= .returned (.tuple #[.slice none 0 0, .int .i64 k, .int .i64 p])
theorem zdy{l:List Nd}{k:Nat}{u:Nd}(hm:¬300<l.length)(hu:l[k]? =some u)(hd:24<u.depth)(hs:∀(i:Nat) (n:Nd),i<k->l[i]? =some n->¬24<n.depth):xz l= .fault 31 u.at_:=by
 obtain⟨hlk,he⟩:=List.getElem?_eq_some_iff.1 hu
 unfold xz
 rw[if_neg hm]
 have:l.find? (fun n=>decide (24<n.depth))=some u:=by
  rw[List.find?_eq_some_iff_getElem]
  refine⟨by simpa using hd,k,hlk,he,fun i hi=>?_⟩
  have:=hs i (l[i]'(by omega)) hi (List.getElem?_eq_getElem (by omega))
  simpa using this
 rw[this]
theorem zdw{l:List Nd}(hm:¬300<l.length)(hs:∀(i:Nat) (n:Nd),i<l.length->l[i]? =some n->¬24<n.depth):xz l= .tree l:=by
 unfold xz
 rw[if_neg hm]
 have:l.find? (fun n=>decide (24<n.depth))=none:=by
  rw[List.find?_eq_none]
  intro x hx hd
  obtain⟨i,hi,hix⟩:=List.getElem_of_mem hx
  have h9:=hs i x hi (by rw[List.getElem?_eq_getElem hi,hix])
  have h10:24<x.depth:=by simpa using hd
  omega
 rw[this]
theorem zdx{l:List Nd}{u:Nd}(hm:300<l.length)(hu:l[300]? =some u):xz l= .fault 32 u.at_:=by
 unfold xz
 rw[if_pos hm,hu]
 rfl
theorem PD.rem{C:Ctx}{i j:Nat}{b':Int}{l:List Nd}(h:PD C i l j b'):remP C j b'<=remP C i (-1):=by
 have:=h.1
 rw[remP_good (C:=C) (i:=i) (b:= -1) (by omega)]
 unfold remP
 split<;>omega
theorem PD.len{C:Ctx}{i j:Nat}{b':Int}{l:List Nd}(h:PD C i l j b'):0<l.length/\l.length<=20000:=by have:=h.2.1;omega
theorem PSt.subD{C:Ctx}{w wk w':World}{R i j:Nat}{b':Int}{l:List Nd}(h:PSt C w R i (-1) wk)(h1:RP C j b' w')(h2:Gr C.r wk w')(hp:PD C i l j b'):PSt C w R j b' w':=⟨h1,h.gr.trans h2,hp.2.2.2.1,Nat.le_trans hp.rem h.rem⟩
theorem xM{w:World}{B gb cap:Nat}{L:List Nd}(h:w.ownsRow B 50 6 (.slice (some ⟨gb,0,none⟩) L.length cap) L.length (ndCells L)){k:Nat}{u:Nd}(hu:L[k]? =some u)(x:Nat)(v:Value)(hx:x<6)(hv:u.cells[x]? =some v):w.cell? ⟨gb,k*6+x,none⟩=some v:=by
 have:=h.cells rfl (k*6+x) v ((nd_get hu x hx).trans hv)
 rw[show((⟨gb,0,none⟩:Addr).add (k*6+x))=⟨gb,k*6+x,none⟩ from by unfold Addr.add;split<;>simp_all] at this
 exact this
theorem zeW{w:World}{B cap:Nat}{bo:Option Addr}{L:List Nd}(h:w.ownsRow B 50 6 (.slice bo L.length cap) L.length (ndCells L))(hne:0<L.length):∃gb,bo=some ⟨gb,0,none⟩:=by
 rcases h.2 with⟨h1,h2⟩|⟨g',cap,cur,h1,_⟩
 ·omega
 ·exact⟨g',by simp at h1;exact h1.1⟩
theorem rparse_any(s:ByteArray)(hs:s.size<=9223372036854775807)(w:World)(o:POut)(ho:xy s o):Calls Tryz.prog 15 #[.string s] w (RPar o w):=by
 have HTK:=zbS s hs w
 generalize hQ:RPar o w=Q
 have HQ1:Hid (∀k p w',Kin w w'->o= .fault k p->Q (.returned (.tuple #[.slice none 0 0, .int .i64 k, .int .i64 p])) w'):=Lib.hid (fun k p w' K e=>by rw[<-hQ,e];exact⟨K,rfl⟩)
 have HQ2:Hid (∀l sl w',Kin w w'->o= .tree l->w'.ownsRow w.heap.size 50 6 sl l.length (ndCells l)->Q (.returned (.tuple #[sl, .int .i64 0, .int .i64 0])) w'):=Lib.hid (fun l sl w' K e ho=>by rw[<-hQ,e];exact⟨K,sl,rfl,ho⟩)
 clear hQ
 unfold xy at ho
 by_cases h1:8192<s.size
 ·rw[if_pos h1] at ho
  have HT:Hid _:=Lib.hid (HTK.mono (fun e w' h=>by unfold RToks at h;rw[if_pos h1] at h;exact And.intro h.2 h.1))
  clear HTK
  go_enter Tryz.func15,Tryz.ntmps15
  go_wp2_with (go_at_call 45;with_reducible refine HT.out.mono ?_;rintro e w1 ⟨rfl,K1⟩)
  refine bodyPost_ret (v:= .tuple #[.slice none 0 0, .int .i64 21, .int .i64 8192]) (by simp[results,Tryz.f15,go_sem];try rfl) rfl ?_
  exact HQ1.out _ _ _ K1 ho
 ·rw[if_neg h1] at ho
  by_cases h2:(badOf (pieces s)).1≠0
  ·rw[if_pos h2] at ho
   have HT:=HTK.mono (fun e w' h=>by unfold RToks at h;rw[if_neg h1,if_pos h2] at h;exact And.intro h.2 h.1)
   clear HTK
   generalize (badOf (pieces s)).1=kd at*
   generalize (badOf (pieces s)).2=pl at*
   have HT:=Lib.hid HT
   have hk:(kd !=0)=true:=by simp[h2]
   clear h2
   go_enter Tryz.func15,Tryz.ntmps15
   go_wp2_with (go_at_call 45;with_reducible refine HT.out.mono ?_;rintro e w1 ⟨rfl,K1⟩)
   refine bodyPost_ret (v:= .tuple #[.slice none 0 0, .int .i64 kd, .int .i64 pl]) (by simp[results,Tryz.f15,go_sem];try rfl) rfl ?_
   exact HQ1.out _ _ _ K1 ho
  ·rw[if_neg h2] at ho
   have hsz:s.size<=8192:=by omega
   have hL:=zhk s hsz
   have HT:Hid (Calls Tryz.prog 45 #[.string s] w (fun e w'=>∃sl,e= .returned (.tuple #[sl, .int .i64 0, .int .i64 0])/\Kin w w'/\w'.ownsRow w.heap.size 140 4 sl (zd (pieces s)).length (flatToks (zd (pieces s))))):=Lib.hid (HTK.mono (fun e w' h=>by
    unfold RToks at h
    rw[if_neg h1,if_neg h2] at h
    obtain⟨K,sl,h3,h4⟩:=h
    exact⟨sl,h3,K,h4⟩))
   have HLX0:=lexOk_of s
   have HWD0:=wdOk_of s
   have HO0:=Lib.hid ho
   clear HTK h1 h2 ho
   obtain⟨ti,hi,hz0,hz1,hz2⟩:=info_parts kN
   go_enter Tryz.func15,Tryz.ntmps15
   go_upto_region 6 with(go_at_call 45;with_reducible refine HT.out.mono ?_;rintro e w1 ⟨sl,rfl,K1,hown⟩;obtain⟨b0,c0,rfl⟩:=xe hown)
   have hP0:=zgI s _ w.heap.size w1 hown hL
   have hB0:w.heap.size<=(w1.alloc (.cells #[.slice b0 (zd (pieces s)).length c0, .int .i64 0, .int .i64 s.size, .int .i64 (-1)] 93)).heap.size:=by have:=K1.size;simp;omega
   have hKG:∀wr,Gr w1.heap.size (w1.alloc (.cells #[.slice b0 (zd (pieces s)).length c0, .int .i64 0, .int .i64 s.size, .int .i64 (-1)] 93)) wr->Kin w wr:=fun wr G=>zfh K1 rfl G
   have hOUT:∃f r,rd (ctxR s w1.heap.size (.slice b0 (zd (pieces s)).length c0)) f .prog 0=some r/\o=qj r:=by
    obtain⟨f,r,hr,e⟩:=HO0.out
    exact⟨f,r,(zeM (C:=ctxR s w1.heap.size (.slice b0 (zd (pieces s)).length c0)) (C':=ctx0 s) rfl rfl f .prog 0).trans hr,e⟩
   generalize hw2:w1.alloc (.cells #[.slice b0 (zd (pieces s)).length c0, .int .i64 0, .int .i64 s.size, .int .i64 (-1)] 93)=w2 at*
   obtain⟨C,hC⟩:∃C,ctxR s w1.heap.size (.slice b0 (zd (pieces s)).length c0)=C:=⟨_,rfl⟩
   have hCr:w1.heap.size=C.r:=by rw[<-hC];rfl
   have hCl:zd (pieces s)=C.l:=by rw[<-hC];rfl
   rw[hC] at hP0 hOUT
   rw[hCr] at hKG⊢
   rw[hCl] at HLX0 HWD0⊢
   have HLX:=Lib.hid HLX0
   have HWD:=Lib.hid HWD0
   have HKG:=Lib.hid hKG
   have HOUT:=Lib.hid hOUT
   have HB:=Lib.hid hB0
   have HR0:=Lib.hid hP0
   have hrl:=hP0.lt
   have hlen:=hP0.len
   have HPL:Hid (∀k,0<=placeOf C.l C.e k):=Lib.hid (yA hP0)
   clear HT HLX0 HWD0 hKG hOUT hP0 hown K1 hw2 hC hCr hCl HO0 hL hB0 hsz hs
   go_loopg [9] C.l.length (fun gg x wr=>∃(l:List Nd) (j:Nat) (b:Int),wr.ownsRow w2.heap.size 50 6 x l.length (ndCells l)/\PSt C w2 (remP C 0 (-1)) j b wr/\DclI C l j b/\gg=C.l.length-j)
   case atStart=>exact⟨[],0,-1,World.ownsRow_nil _ _ _ _,PSt.start HR0.out (.inl rfl),zd1,rfl⟩
   case round=>
    obtain⟨l,j,b,hO,hS,hI,hgg⟩:=hrel
    have HI:=Lib.hid hI
    have HG:=Lib.hid hgg
    have hln:l.length<=20000:=by have:=hI.1;have:=hS.rp.le;omega
    obtain⟨bo,c,rfl⟩:=xe hO
    clear hI hgg
    obtain⟨q1,qf,q3⟩:=hS.rp.at1
    cases xv:isP C j b ⟨#[118,97,114]⟩ with
    |true=>
     have I1:=Lib.hid xv
     clear xv
     obtain⟨hlt,hb0⟩:=isP_lt I1.out
     obtain rfl:b= -1:=by rcases hS.vb with h|h<;>omega
     have hdc:comesB C.l j ⟨#[118,97,114]⟩=true\/comesB C.l j ⟨#[97,114,114,97,121]⟩=true:= .inl (by have:=I1.out;rwa [isP_good] at this)
     have hnl:=zS l
     go_wp2_with (first|(go_at_call 46;with_reducible refine(za C j _ ⟨#[118,97,114]⟩ _ hS.rp).mono ?_;rintro e w' ⟨rfl,K⟩;replace hS:=hS.kin K;clear q1 qf q3;obtain⟨q1,qf,q3⟩:=hS.rp.at1;replace hO:=owns_kin hO K;rw[I1.out];clear K)|(go_at_call 47;with_reducible refine(wn j _ hS.rp hdc).mono ?_;rintro e w' ⟨v2,l2,j2,b2,rfl,ho,hR,G,hP⟩;obtain⟨hp0,hp1⟩:=PD.len hP;obtain⟨g1,cap1,rfl,hg1⟩:=ho.form hp0;replace hO:=G.owns hO hrl;replace hS:=hS.subD hR G hP;clear hR G q1 qf q3)|(at_builtin;refine wpList_append_own _ rfl (.tmp 32) (.tmp 34) 25 rfl w2.heap.size 50 ti _ 6 56 Tryz.underlying25 hi hz0 hz1 hz2 rfl (by decide) _ _ _ rfl hO ⟨g1,0,none⟩ l2.length cap1 (ndCells l2) rfl (zS _) (ho.cells rfl) (qn _) (by unfold maxLen;omega) (by omega) hS.gr.size ?_;intro v3 w3 hown3 hgrow3 _;replace hS:=hS.grown hgrow3 HR0.out (fun b hb=>(hO.lt b hb).1)))
     go_roundg (C.l.length-j2)
     case measure=>have:=HG.out;have:=hP.1;have:=hS.rp.le;omega
     case rel=>exact⟨_,_,_,by rw[List.length_append,xb];exact hown3,hS,dclI_next HI.out hP,rfl⟩
    |false=>
     have I1:=Lib.hid xv
     clear xv
     cases xa:isP C j b ⟨#[97,114,114,97,121]⟩ with
     |true=>
      have I2:=Lib.hid xa
      clear xa
      obtain⟨hlt,hb0⟩:=isP_lt I2.out
      obtain rfl:b= -1:=by rcases hS.vb with h|h<;>omega
      have hdc:comesB C.l j ⟨#[118,97,114]⟩=true\/comesB C.l j ⟨#[97,114,114,97,121]⟩=true:= .inr (by have:=I2.out;rwa [isP_good] at this)
      have hnl:=zS l
      go_wp2_with (first|(go_at_call 46;with_reducible refine(za C j _ ⟨#[118,97,114]⟩ _ hS.rp).mono ?_;rintro e w' ⟨rfl,K⟩;replace hS:=hS.kin K;clear q1 qf q3;obtain⟨q1,qf,q3⟩:=hS.rp.at1;replace hO:=owns_kin hO K;rw[I1.out];clear K)|(go_at_call 46;with_reducible refine(za C j _ ⟨#[97,114,114,97,121]⟩ _ hS.rp).mono ?_;rintro e w' ⟨rfl,K⟩;replace hS:=hS.kin K;clear q1 qf q3;obtain⟨q1,qf,q3⟩:=hS.rp.at1;replace hO:=owns_kin hO K;rw[I2.out];clear K)|(go_at_call 47;with_reducible refine(wn j _ hS.rp hdc).mono ?_;rintro e w' ⟨v2,l2,j2,b2,rfl,ho,hR,G,hP⟩;obtain⟨hp0,hp1⟩:=PD.len hP;obtain⟨g1,cap1,rfl,hg1⟩:=ho.form hp0;replace hO:=G.owns hO hrl;replace hS:=hS.subD hR G hP;clear hR G q1 qf q3)|(at_builtin;refine wpList_append_own _ rfl (.tmp 32) (.tmp 34) 25 rfl w2.heap.size 50 ti _ 6 56 Tryz.underlying25 hi hz0 hz1 hz2 rfl (by decide) _ _ _ rfl hO ⟨g1,0,none⟩ l2.length cap1 (ndCells l2) rfl (zS _) (ho.cells rfl) (qn _) (by unfold maxLen;omega) (by omega) hS.gr.size ?_;intro v3 w3 hown3 hgrow3 _;replace hS:=hS.grown hgrow3 HR0.out (fun b hb=>(hO.lt b hb).1)))
      go_roundg (C.l.length-j2)
      case measure=>have:=HG.out;have:=hP.1;have:=hS.rp.le;omega
      case rel=>exact⟨_,_,_,by rw[List.length_append,xb];exact hown3,hS,dclI_next HI.out hP,rfl⟩
     |false=>
      have I2:=Lib.hid xa
      clear xa
      have HN:Hid (b= -1->comesB C.l j ⟨#[118,97,114]⟩=false/\comesB C.l j ⟨#[97,114,114,97,121]⟩=false):=Lib.hid (fun e=>by subst e;exact⟨by have:=I1.out;rwa [isP_good] at this,by have:=I2.out;rwa [isP_good] at this⟩)
      go_upto_region 8 with(first|(go_at_call 46;with_reducible refine(za C j _ ⟨#[118,97,114]⟩ _ hS.rp).mono ?_;rintro e w' ⟨rfl,K⟩;replace hS:=hS.kin K;clear q1 qf q3;obtain⟨q1,qf,q3⟩:=hS.rp.at1;replace hO:=owns_kin hO K;rw[I1.out];clear K)|(go_at_call 46;with_reducible refine(za C j _ ⟨#[97,114,114,97,121]⟩ _ hS.rp).mono ?_;rintro e w' ⟨rfl,K⟩;replace hS:=hS.kin K;clear q1 qf q3;obtain⟨q1,qf,q3⟩:=hS.rp.at1;replace hO:=owns_kin hO K;rw[I2.out];clear K))
      have HO1:=Lib.hid hO
      have HS1:=Lib.hid hS
      go_loopg [9] (C.l.length+2) (fun gg x wr=>∃(l2:List Nd) (j2:Nat) (b2:Int),wr.ownsRow w2.heap.size 50 6 x (l++l2).length (ndCells (l++l2))/\PSt C w2 (remP C 0 (-1)) j2 b2 wr/\StsI C (fun k=>k<C.l.length) j b l2 j2 b2/\remP C j2 b2<=gg)
      case atStart=>exact⟨[],j,b,by rw[List.append_nil];exact HO1.out,HS1.out,wf HS1.out.vb,by unfold remP;split<;>omega⟩
      case round=>
       obtain⟨l2,j2,b2,hO,hS,hI2,hgg⟩:=hrel
       clear HO1 HS1 I1 I2
       have HI2:=Lib.hid hI2
       have HG2:=Lib.hid hgg
       have hln2:(l++l2).length<=20000:=by
        have h1:=HI.out.1
        have h2:=hI2.2.1
        have h3:=hI2.1
        have h4:=hS.rp.le
        rw[List.length_append]
        omega
       obtain⟨L,hLL⟩:∃L,l++l2=L:=⟨_,rfl⟩
       rw[hLL] at hO hln2
       obtain⟨b9,c9,rfl⟩:=xe hO
       clear hI2 hgg
       obtain⟨q1,qf,q3⟩:=hS.rp.at1
       rcases hS.vb with hb|hb
       ·subst hb
        by_cases hlt:j2<C.l.length
        ·have hltd:decide ((j2:Int)<(C.l.length:Int))=true:=decide_eq_true (by omega)
         have HLT:=Lib.hid hlt
         have hnl:=zS L
         go_wp2_with (first|(go_at_call 48;with_reducible refine(zeK HLX.out HWD.out j2 _ hS.rp).mono ?_;rintro e w' ⟨v3,l3,j3,b3,rfl,ho,hR,G,hP⟩;obtain⟨hp0,hp1⟩:=zeO hP hR;obtain⟨g1,cap1,rfl,hg1⟩:=ho.form hp0;replace hO:=G.owns hO hrl;replace hS:=hS.subS hR G hP;clear hR G q1 qf q3)|(at_builtin;refine wpList_append_own _ rfl (.tmp 50) (.tmp 52) 25 rfl w2.heap.size 50 ti _ 6 56 Tryz.underlying25 hi hz0 hz1 hz2 rfl (by decide) _ _ _ rfl hO ⟨g1,0,none⟩ l3.length cap1 (ndCells l3) rfl (zS _) (ho.cells rfl) (qn _) (by unfold maxLen;omega) (by omega) hS.gr.size ?_;intro v4 w4 hown3 hgrow3 _;replace hS:=hS.grown hgrow3 HR0.out (fun b hb=>(hO.lt b hb).1)))
         obtain⟨hI3,hj3⟩:=gM HI2.out HLT.out hP
         have HI3:=Lib.hid hI3
         have hgt:remP C j3 b3<remP C j2 (-1):=by
          rw[remP_good (C:=C) (i:=j2) (b:= -1) (by omega)]
          unfold remP
          split
          ·have:=hj3 (by rcases hP.2.2.2.1 with h|h<;>omega)
           have:=hS.rp.le
           omega
          ·omega
         clear hI3 hj3
         go_roundg (remP C j3 b3)
         case measure=>have:=HG2.out;omega
         case rel=>exact⟨_,_,_,by rw[<-List.append_assoc,hLL,xb L l3,@List.length_append _ L l3];exact hown3,hS,HI3.out,Nat.le_refl _⟩
        ·have hltd:decide ((j2:Int)<(C.l.length:Int))=false:=decide_eq_false (by omega)
         have hL0:=zaM HI.out HN.out HI2.out (.inr (by omega))
         rw[hLL] at hL0
         obtain⟨hlL,_,hall⟩:=hL0
         have HO9:Hid (o=xz L):=Lib.hid (by
          obtain⟨f,r,hr,e⟩:=HOUT.out
          obtain⟨ts,k,e2,e3⟩:=(hall f r hr).1 rfl
          rw[e,e2,e3]
          rfl)
         have HKW:Hid (Kin w wr):=Lib.hid (HKG.out _ hS.gr)
         have hsz2:=hS.gr.size
         clear hall HI HI2 HN HOUT
         by_cases hm:300<L.length
         ·have hdm:decide ((300:Int)<(L.length:Int))=true:=by simp;omega
          obtain⟨u,hu⟩:∃u,L[300]? =some u:=⟨_,List.getElem?_eq_getElem hm⟩
          obtain⟨gb,rfl⟩:=zeW hO (by omega)
          have c5:=xM hO hu 5 _ (by omega) rfl
          have HF:Hid (o= .fault 32 u.at_):=Lib.hid (HO9.out.trans (zdx hm hu))
          clear hu
          go_wp2_with fail
          go_quiet (fail)
          rename_i nq
          go_wp2_with fail
          refine bodyPost_ret (v:= .tuple #[.slice none 0 0, .int .i64 32, .int .i64 u.at_]) (by simp[results,Tryz.f15,go_sem];try rfl) rfl ?_
          exact HQ1.out _ _ _ (HKW.out.drewN _) HF.out
         ·have hdm:decide ((300:Int)<(L.length:Int))=false:=by simp;omega
          have HO2:=Lib.hid hO
          have HM:=Lib.hid hm
          obtain⟨wo,hwo⟩:∃wo:World,wo=wr:=⟨_,rfl⟩
          go_wp2_with fail
          go_loopg [10] L.length (fun gg x wq=>∃k:Nat,x= .int .i64 k/\k<=L.length/\gg=L.length-k/\Kin wo wq/\∀(i:Nat) (n:Nd),i<k->L[i]? =some n->¬24<n.depth)
          case atStart=>exact⟨0,rfl,Nat.zero_le _,rfl,by rw[hwo];exact Kin.refl _,fun i n hi=>by omega⟩
          case round=>
           obtain⟨k,rfl,hk2,hgg,hbq,hsmall⟩:=hrel
           subst hwo
           have HBQ:=Lib.hid hbq
           have HSM:=Lib.hid hsmall
           have HG3:=Lib.hid hgg
           clear hbq hsmall hgg
           by_cases hlk:k<L.length
           ·obtain⟨u,hu⟩:∃u,L[k]? =some u:=⟨_,List.getElem?_eq_getElem hlk⟩
            obtain⟨gb,rfl⟩:=zeW HO2.out (by omega)
            have z0:=xM HO2.out hu 0 _ (by omega) rfl
            have z5:=xM HO2.out hu 5 _ (by omega) rfl
            have r0:=(HBQ.out.cell (World.block_lt_of_cell? _ _ z0)).trans z0
            have r5:=(HBQ.out.cell (World.block_lt_of_cell? _ _ z5)).trans z5
            rw[Nat.add_zero] at r0
            have HU:=Lib.hid hu
            clear z0 z5 hu
            by_cases hd:(24:Int)<u.depth
            ·have hdd:decide ((24:Int)<u.depth)=true:=by simp[hd]
             have HF:Hid (o= .fault 31 u.at_):=Lib.hid (HO9.out.trans (zdy HM.out HU.out hd HSM.out))
             clear hd
             go_wp2_with fail
             go_quiet (fail)
             rename_i nq
             go_wp2_with fail
             refine bodyPost_ret (v:= .tuple #[.slice none 0 0, .int .i64 31, .int .i64 u.at_]) (by simp[results,Tryz.f15,go_sem];try rfl) rfl ?_
             exact HQ1.out _ _ _ ((HKW.out.trans HBQ.out).drewN _) HF.out
            ·have hdd:decide ((24:Int)<u.depth)=false:=by simp;omega
             have HD:=Lib.hid hd
             clear hd
             go_wp2_with fail
             go_roundg (L.length-(k+1))
             case measure=>have:=HG3.out;omega
             case rel=>
              refine⟨k+1,by simp,by omega,rfl,HBQ.out,fun i n hi hin=>?_⟩
              by_cases hik:i=k
              ·subst hik
               rw[HU.out] at hin
               cases hin
               exact HD.out
              ·exact HSM.out i n (by omega) hin
           ·obtain rfl:k=L.length:=by omega
            have HF:Hid (o= .tree L):=Lib.hid (HO9.out.trans (zdw HM.out HSM.out))
            go_wp2_with fail
            refine bodyPost_ret (v:= .tuple #[.slice b9 L.length c9, .int .i64 0, .int .i64 0]) (by simp[results,Tryz.f15,go_sem];try rfl) rfl ?_
            exact HQ2.out _ _ _ (HKW.out.trans HBQ.out) HF.out ((owns_kin HO2.out HBQ.out).mono HB.out)
       ·have hbd:decide (b2<0)=false:=decide_eq_false (by omega)
        have hbd2:decide (0<=b2)=true:=decide_eq_true hb
        obtain⟨_,_,hall⟩:=zaM HI.out HN.out HI2.out (.inl hb)
        have HF:Hid (o= .fault 30 b2):=Lib.hid (by
         obtain⟨f,r,hr,e⟩:=HOUT.out
         rw[e,(hall f r hr).2 hb]
         rfl)
        have HKW:Hid (Kin w wr):=Lib.hid (HKG.out _ hS.gr)
        clear hall HI HI2 HN HOUT
        go_wp2_with fail
        go_quiet (fail)
        rename_i nq
        go_wp2_with fail
        refine bodyPost_ret (v:= .tuple #[.slice none 0 0, .int .i64 30, .int .i64 b2]) (by simp[results,Tryz.f15,go_sem];try rfl) rfl ?_
        exact HQ1.out _ _ _ (HKW.out.drewN _) HF.out
end Go.Proofs.YtonmcakdofbjiaaGreatDoor
