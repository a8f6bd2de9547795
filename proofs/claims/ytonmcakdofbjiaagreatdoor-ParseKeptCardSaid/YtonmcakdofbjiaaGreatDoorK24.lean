/-
  winnowlaw03.ParseKept answers true at every two texts: the row, and the tied card. Conditions: those of the given statement.
-/
import Derived.Test.YtonmcakdofbjiaaGreatDoorK23
import Derived.Test.YtonmcakdofbjiaaGreatDoorK14
import Derived.Test.YtonmcakdofbjiaaGreatDoorTie
import Derived.Test.YtonmcakdofbjiaaGreatDoorCards
import Derived.SizedLaws
import Derived.ChangeMaps
import Derived.LaidLaws
import Derived.MakeChecks
import Derived.ProofKit
import Derived.OpenShut
import Derived.LaidMore
import Derived.Lay
set_option linter.all false
set_option maxRecDepth 100000
set_option maxHeartbeats 8000000
namespace Go.Proofs.YtonmcakdofbjiaaGreatDoor
open Go.RowKit Go.Bsd
def xj(n:Nat)(a:Act)(_:World):Nat:=6-(match a.tmps.getD n undef with| .int _ i=>i.toNat|_=>0)
theorem zcI{F:Nat->Value}{i:Nat}(w:World)(h:F 17= .int .i64 i):xj 17 (frA F) w=6-i:=by
 show 6-(match F 17 with| .int _ i=>i.toNat|_=>0)=_
 rw[h]
 simp
theorem zfj{F:Nat->Value}{i:Nat}(w:World)(h:F 7= .int .i64 i):xj 7 (frA F) w=6-i:=by
 show 6-(match F 7 with| .int _ i=>i.toNat|_=>0)=_
 rw[h]
 simp
def wY(w:World)(g:Nat)(a:Act)(w':World):Prop:=∃(i:Nat) (F:Nat->Value),a=frA F/\F 4= .bool false/\F 5= .slice (some ⟨g,0,none⟩) 6 6/\F 17= .int .i64 i/\i<=6/\Kin w w'
noncomputable def txF(tx:List ByteArray)(j:Nat):List Nd:=ndsOf (outS (tx.getD j ⟨#[]⟩))
def wZ(w:World)(g:Nat)(tx:List ByteArray)(a:Act)(w':World):Prop:=∃(i:Nat) (F:Nat->Value) (vs:List Value),a=frA F/\F 4= .bool false/\F 5= .slice (some ⟨g,0,none⟩) 6 6/\F 7= .int .i64 i/\i<=6/\vs.length=i/\Kin w w'/\Thg w' w.heap.size (i+1) (KG (F 6) vs vs (txF tx))
theorem ziK(w:World)(B:Nat)(f:Nat->List Nd):Thg w B 1 (KG (.slice none 0 0) [] [] f):=
 ⟨fun j hj=>by obtain rfl:j=0:=by omega
               exact World.ownsRow_nil w B 25 1,fun a b ha hb hab=>by omega⟩
theorem zdO(hP:TameProg Tryz.prog)(w w1:World)(K1:Kin w w1)(te:TypeId)(pe:Value)(hv:VarsOk w)(ce:w.cell? ⟨0,0,none⟩=some (.iface te pe))(g:Nat)(tx:List ByteArray)(htx:tx.length=6)(hsz:∀t∈tx,t.size<=9223372036854775807)(hc:∀(j:Nat) t,tx[j]? =some t->w.cell? ⟨g,j,none⟩=some (.string t))(F:Nat->Value)(h4:F 4= .bool false)(h5:F 5= .slice (some ⟨g,0,none⟩) 6 6)(B:Exit->Act->World->Prop)
 (HEND:Hid (∀(F:Nat->Value) w2,Kin w w2->wpB Tryz.prog (seqR kqC) B (frA F) w2)):wpB Tryz.prog kqC B (frA F) w1:=by
 rw[zjB]
 have HC:=Lib.hid hc
 have HSZ:=Lib.hid hsz
 have HTX:=Lib.hid htx
 have HV:=Lib.hid hv
 have HCE:=Lib.hid ce
 have HK1:=Lib.hid K1
 clear hc hsz htx hv ce K1
 refine wpB_seq hP (xd hP fun T d=>?_)
 generalize hE:seqR kqC=E at HEND⊢
 clear hE
 generalize hY:wpB Tryz.prog (.block 4 (.loop kqC3)) _=Y
 have HY:=Lib.hid hY
 clear hY
 simp only[kqC,kqB,kq2,kq0,seqL,seqR,Tryz.f3,Option.getD_some]
 rw[yy]
 simp only[h4,h5]
 go_wp2
 rw[<-HY.out]
 clear HY
 rw[frA_of _ (by rfl)]
 refine uC (wpB_block hP ?_)
 refine zaE hP (wY w g) (xj 17) ⟨0,_,rfl,rfl,rfl,rfl,Nat.zero_le _,HK1.out⟩ ?_
 rintro a w2 ⟨i,F,rfl,h4,h5,hx,hi,hK⟩
 have HK:=Lib.hid hK
 clear hK HK1
 rw[ziH]
 have hm:=zcI w2 hx
 have HQN:Hid (∀a' w',wY w g a' w'->xj 17 a' w'<6-i->(Exit.then (fun a' w'=>wY w g a' w'/\xj 17 a' w'<xj 17 (frA F) w2) (Exit.inBlock 4 (Exit.then (wpB Tryz.prog E B) B))) .normal a' w'):=Lib.hid (fun a' w' h1 h2=>⟨h1,by rw[hm];exact h2⟩)
 have HQE:Hid (∀a' w',wpB Tryz.prog E B a' w'->(Exit.then (fun a' w'=>wY w g a' w'/\xj 17 a' w'<xj 17 (frA F) w2) (Exit.inBlock 4 (Exit.then (wpB Tryz.prog E B) B))) (.exit 4) a' w'):=Lib.hid (fun a' w' h=>h)
 generalize (Exit.then (fun a' w'=>wY w g a' w'/\xj 17 a' w'<xj 17 (frA F) w2) (Exit.inBlock 4 (Exit.then (wpB Tryz.prog E B) B)))=Q at HQN HQE⊢
 clear hm
 have hi0:(0:Int)<=(i:Int):=by omega
 by_cases hlt:i<6
 ·obtain⟨s,hs⟩:∃s,tx[i]? =some s:=⟨_,List.getElem?_eq_getElem (by rw[HTX.out];exact hlt)⟩
  have hss:=HSZ.out s (List.mem_of_getElem? hs)
  have hc0:=HC.out i s hs
  have HNEXT:Hid (∀(F':Nat->Value) w3,F' 4= .bool false->F' 5= .slice (some ⟨g,0,none⟩) 6 6->F' 17= .int .i64 i->Kin w w3->wpB Tryz.prog (seqR (seqR kqC3)) Q (frA F') w3):=Lib.hid (by
   intro F' w3 k4 k5 kx K3
   refine wpB_lift hP fun T d=>?_
   generalize hW:re w3 T d=w4
   have HK4:Hid (Kin w w4):=Lib.hid (by rw[<-hW];exact K3.trans (yd w3 T d))
   clear hW
   rw[yy]
   simp only[k4,k5,kx]
   simp only[kqC3,kqC,kqB,kq2,kq0,seqL,seqR,yM,zu,Tryz.f3,Option.getD_some]
   have hlt':(i:Int)<6:=by omega
   go_wp2
   rw[frA_of _ (by rfl)]
   refine HQN.out _ _ ⟨i+1,_,rfl,rfl,rfl,by simp,hlt,HK4.out⟩ ?_
   rw[zcI (i:=i+1) _ (by simp)]
   omega)
  have HBODY:Hid (∀(F':Nat->Value) w3,F' 4= .bool false->F' 5= .slice (some ⟨g,0,none⟩) 6 6->F' 17= .int .i64 i->Kin w w3->wpB Tryz.prog (.seq (.block 5 (.seq (seqL (zu (seqL (seqR kqC3)))) kqC4)) (seqR (seqR kqC3))) Q (frA F') w3):=Lib.hid (by
   intro F' w3 k4 k5 kx K3
   refine wpB_seq hP (wpB_block hP ?_)
   exact kept_roundC hP w w3 K3 te pe (HV.out.kin K3) (cl_kin K3 HCE.out) g i hlt s hss (cl_kin K3 hc0) F' k4 k5 kx _ (Lib.hid HNEXT.out))
  clear HNEXT HEND
  refine wpB_seq hP (wpB_lift hP fun T d=>?_)
  generalize hW:re w2 T d=w4
  have HK4:Hid (Kin w w4):=Lib.hid (by rw[<-hW];exact HK.out.trans (yd w2 T d))
  clear hW
  generalize hX:(Code.seq (.block 5 (.seq (seqL (zu (seqL (seqR kqC3)))) kqC4)) (seqR (seqR kqC3)))=X at HBODY⊢
  clear hX
  have hltd:decide ((i:Int)<6)=true:=decide_eq_true (by omega)
  rw[yy]
  simp only[h4,h5,hx]
  simp only[kqC3,kqC,kqB,kq2,kq0,seqL,seqR,yM,zu,Tryz.f3,Option.getD_some]
  go_wp2
  rw[frA_of _ (by rfl)]
  exact HBODY.out _ w4 rfl rfl rfl HK4.out
 ·refine wpB_seq hP (wpB_lift hP fun T d=>?_)
  generalize hW:re w2 T d=w4
  have HK4:Hid (Kin w w4):=Lib.hid (by rw[<-hW];exact HK.out.trans (yd w2 T d))
  clear hW
  generalize hX:(Code.seq (.block 5 (.seq (seqL (zu (seqL (seqR kqC3)))) kqC4)) (seqR (seqR kqC3)))=X
  clear hX
  obtain rfl:i=6:=by omega
  rw[yy]
  simp only[h4,h5,hx]
  simp only[kqC3,kqC,kqB,kq2,kq0,seqL,seqR,yM,zu,Tryz.f3,Option.getD_some]
  go_wp2
  rw[frA_of _ (by rfl)]
  exact HQE.out _ _ (HEND.out _ w4 HK4.out)
theorem zdQ(hP:TameProg Tryz.prog)(w w1:World)(K1:Kin w w1)(te:TypeId)(pe:Value)(hv:VarsOk w)(ce:w.cell? ⟨0,0,none⟩=some (.iface te pe))(g:Nat)(tx:List ByteArray)(htx:tx.length=6)(hsz:∀t∈tx,t.size<=9223372036854775807)(hc:∀(j:Nat) t,tx[j]? =some t->w.cell? ⟨g,j,none⟩=some (.string t))(F:Nat->Value)(h4:F 4= .bool false)(h5:F 5= .slice (some ⟨g,0,none⟩) 6 6)(h6:F 6= .slice none 0 0)(B:Exit->Act->World->Prop)
 (HEND:Hid (∀(F:Nat->Value) (vs:List Value) w2,F 4= .bool false->F 5= .slice (some ⟨g,0,none⟩) 6 6->vs.length=6->Kin w w2->Thg w2 w.heap.size 7 (KG (F 6) vs vs (txF tx))->wpB Tryz.prog kqB B (frA F) w2)):wpB Tryz.prog (.seq (.seq (seqL (seqL (seqR (seqR kq2)))) (.block 0 (.loop kqA3))) kqB) B (frA F) w1:=by
 have HC:=Lib.hid hc
 have HSZ:=Lib.hid hsz
 have HTX:=Lib.hid htx
 have HV:=Lib.hid hv
 have HCE:=Lib.hid ce
 have HK1:=Lib.hid K1
 clear hc hsz htx hv ce K1
 refine wpB_seq hP (xd hP fun T d=>?_)
 generalize hE:kqB=E at HEND⊢
 clear hE
 generalize hY:wpB Tryz.prog (.block 0 (.loop kqA3)) _=Y
 have HY:=Lib.hid hY
 clear hY
 simp only[kq2,kq0,seqL,seqR,Tryz.f3,Option.getD_some]
 rw[yy]
 simp only[h4,h5,h6]
 go_wp2
 rw[<-HY.out]
 clear HY
 rw[frA_of _ (by rfl)]
 refine uC (wpB_block hP ?_)
 refine zaE hP (wZ w g tx) (xj 7) ⟨0,_,[],rfl,rfl,rfl,rfl,Nat.zero_le _,rfl,HK1.out,ziK _ _ _⟩ ?_
 rintro a w2 ⟨i,F,vs,rfl,h4,h5,hx,hi,hvs,hK,hT⟩
 have HK:=Lib.hid hK
 have HT:=Lib.hid hT
 clear hT
 clear hK HK1
 rw[ziI]
 have hm:=zfj w2 hx
 have HQN:Hid (∀a' w',wZ w g tx a' w'->xj 7 a' w'<6-i->(Exit.then (fun a' w'=>wZ w g tx a' w'/\xj 7 a' w'<xj 7 (frA F) w2) (Exit.inBlock 0 (Exit.then (wpB Tryz.prog E B) B))) .normal a' w'):=Lib.hid (fun a' w' h1 h2=>⟨h1,by rw[hm];exact h2⟩)
 have HQE:Hid (∀a' w',wpB Tryz.prog E B a' w'->(Exit.then (fun a' w'=>wZ w g tx a' w'/\xj 7 a' w'<xj 7 (frA F) w2) (Exit.inBlock 0 (Exit.then (wpB Tryz.prog E B) B))) (.exit 0) a' w'):=Lib.hid (fun a' w' h=>h)
 generalize (Exit.then (fun a' w'=>wZ w g tx a' w'/\xj 7 a' w'<xj 7 (frA F) w2) (Exit.inBlock 0 (Exit.then (wpB Tryz.prog E B) B)))=Q at HQN HQE⊢
 clear hm
 have hi0:(0:Int)<=(i:Int):=by omega
 by_cases hlt:i<6
 ·obtain⟨s,hs⟩:∃s,tx[i]? =some s:=⟨_,List.getElem?_eq_getElem (by rw[HTX.out];exact hlt)⟩
  have hss:=HSZ.out s (List.mem_of_getElem? hs)
  have hc0:=HC.out i s hs
  have HNEXT:Hid (∀(F':Nat->Value) w3,F' 4= .bool false->F' 5= .slice (some ⟨g,0,none⟩) 6 6->F' 7= .int .i64 i->Kin w w3->(∃sl,Thg w3 w.heap.size (i+2) (KG (F' 6) (vs++[sl]) (vs++[sl]) (txF tx)))->wpB Tryz.prog (seqR (seqR kqA3)) Q (frA F') w3):=Lib.hid (by
   intro F' w3 k4 k5 kx K3 ⟨sl,hT3⟩
   refine wpB_lift hP fun T d=>?_
   generalize hW:re w3 T d=w4
   have HK4:Hid (Kin w w4):=Lib.hid (by rw[<-hW];exact K3.trans (yd w3 T d))
   have HT4:Hid (Thg w4 w.heap.size (i+2) (KG (F' 6) (vs++[sl]) (vs++[sl]) (txF tx))):=Lib.hid (by rw[<-hW];exact hT3.kin (yd w3 T d))
   clear hT3
   clear hW
   rw[yy]
   simp only[k4,k5,kx]
   simp only[kqA3,kq2,kq0,seqL,seqR,yM,zu,Tryz.f3,Option.getD_some]
   have hlt':(i:Int)<6:=by omega
   go_wp2
   rw[frA_of _ (by rfl)]
   refine HQN.out _ _ ⟨i+1,_,vs++[sl],rfl,rfl,rfl,by simp,hlt,by simp[hvs],HK4.out,HT4.out⟩ ?_
   rw[zfj (i:=i+1) _ (by simp)]
   omega)
  have HBODY:Hid (∀(F':Nat->Value) w3,F' 4= .bool false->F' 5= .slice (some ⟨g,0,none⟩) 6 6->F' 7= .int .i64 i->F' 6=F 6->Kin w w3->Thg w3 w.heap.size (i+1) (KG (F 6) vs vs (txF tx))->wpB Tryz.prog (.seq (.block 1 (.seq (seqL (zu (seqL (seqR kqA3)))) kqA4)) (seqR (seqR kqA3))) Q (frA F') w3):=Lib.hid (by
   intro F' w3 k4 k5 kx k6 K3 hT3
   refine wpB_seq hP (wpB_block hP ?_)
   exact kept_roundA hP w w3 K3 te pe (HV.out.kin K3) (cl_kin K3 HCE.out) g i hlt s hss (cl_kin K3 hc0) F' k4 k5 kx vs hvs (txF tx) (by simp[txF,List.getD_eq_getElem?_getD,hs]) (by rw[k6];exact hT3) _ (Lib.hid HNEXT.out))
  clear HNEXT HEND
  refine wpB_seq hP (wpB_lift hP fun T d=>?_)
  generalize hW:re w2 T d=w4
  have HK4:Hid (Kin w w4):=Lib.hid (by rw[<-hW];exact HK.out.trans (yd w2 T d))
  have HT4:Hid (Thg w4 w.heap.size (i+1) (KG (F 6) vs vs (txF tx))):=Lib.hid (by rw[<-hW];exact HT.out.kin (yd w2 T d))
  clear hW
  generalize hX:(Code.seq (.block 1 (.seq (seqL (zu (seqL (seqR kqA3)))) kqA4)) (seqR (seqR kqA3)))=X at HBODY⊢
  clear hX
  have hltd:decide ((i:Int)<6)=true:=decide_eq_true (by omega)
  rw[yy]
  simp only[h4,h5,hx]
  simp only[kqA3,kq2,kq0,seqL,seqR,yM,zu,Tryz.f3,Option.getD_some]
  go_wp2
  rw[frA_of _ (by rfl)]
  exact HBODY.out _ w4 rfl rfl rfl rfl HK4.out HT4.out
 ·refine wpB_seq hP (wpB_lift hP fun T d=>?_)
  generalize hW:re w2 T d=w4
  have HK4:Hid (Kin w w4):=Lib.hid (by rw[<-hW];exact HK.out.trans (yd w2 T d))
  have HT4:Hid (Thg w4 w.heap.size (i+1) (KG (F 6) vs vs (txF tx))):=Lib.hid (by rw[<-hW];exact HT.out.kin (yd w2 T d))
  clear hW
  generalize hX:(Code.seq (.block 1 (.seq (seqL (zu (seqL (seqR kqA3)))) kqA4)) (seqR (seqR kqA3)))=X
  clear hX
  obtain rfl:i=6:=by omega
  rw[yy]
  simp only[h4,h5,hx]
  simp only[kqA3,kq2,kq0,seqL,seqR,yM,zu,Tryz.f3,Option.getD_some]
  go_wp2
  rw[frA_of _ (by rfl)]
  exact HQE.out _ _ (HEND.out _ vs w4 rfl rfl hvs HK4.out HT4.out)
theorem zhg(hP:TameProg Tryz.prog)(w0 w w1:World)(K0:Kin w0 w)(K1:Kin w w1)(te:TypeId)(pe:Value)(hv:VarsOk w)(ce:w.cell? ⟨0,0,none⟩=some (.iface te pe))(g:Nat)(tx:List ByteArray)(htx:tx.length=6)(hsz:∀t∈tx,t.size<=9223372036854775807)(hc:∀(j:Nat) t,tx[j]? =some t->w.cell? ⟨g,j,none⟩=some (.string t))(F:Nat->Value)(h4:F 4= .bool false)(h5:F 5= .slice (some ⟨g,0,none⟩) 6 6)(vs:List Value)(hvs:vs.length=6)(hT:Thg w1 w.heap.size 7 (KG (F 6) vs vs (txF tx))):wpB Tryz.prog kqB (bodyPost Tryz.prog Tryz.f3 (TrueP w0)) (frA F) w1:=by
 generalize hB:bodyPost Tryz.prog Tryz.f3 (TrueP w0)=B
 have HB:=Lib.hid hB
 clear hB
 rw[zjC]
 refine xd hP fun T d=>?_
 have KR:=yd w1 T d
 refine zdP w (re w1 T d) (K1.trans KR) g tx htx hsz hc F h4 h5 vs hvs (hT.kin KR) _ (Lib.hid fun F2 w2 k4 k5 k6 K2 K12=>?_)
 show wpB Tryz.prog (.seq (seqL (seqR kqB)) kqC) B (frA F2) w2
 refine xd hP fun T d=>?_
 have HA:Hid (∀w3,Kin w3 (re w2 T d)->True):=Lib.hid (fun _ _=>trivial)
 have K13:=(KR.trans K12).trans (yd w2 T d)
 have K03:=K2.trans (yd w2 T d)
 generalize re w2 T d=w3 at K13 K03⊢
 have hT3:=hT.kin K13
 have HC:Hid (∀(F':Nat->Value) w4,F' 4= .bool false->F' 5= .slice (some ⟨g,0,none⟩) 6 6->Kin w w4->wpB Tryz.prog kqC B (frA F') w4):=Lib.hid (fun F' w4 j4 j5 K4=>zdO hP w w4 K4 te pe hv ce g tx htx hsz hc F' j4 j5 B (Lib.hid fun F3 w5 K5=>by
  refine wpB_lift hP fun T d=>?_
  rw[<-HB.out]
  simp only[kqC,kqB,kq2,kq0,seqR,Tryz.f3,Option.getD_some]
  rw[yy]
  go_wp2
  exact⟨rfl, .bool true,by simp[results,Tryz.f3],rfl,K0.trans (K5.trans (yd w5 T d))⟩))
 have HK:Hid (Kin w w3):=Lib.hid K03
 have HAP:Hid (Calls Tryz.prog 17 #[F 6] w3 fun e w'=>e= .returned (.bool true)/\Below w.heap.size w3 w'):=Lib.hid (by
  have h0:=hT3.own 0 (by omega)
  simp only[KG] at h0
  have hgd:∀(j:Nat) v,vs[j]? =some v->vs.getD j (.slice none 0 0)=v:=fun j v h=>by simp[List.getD_eq_getElem?_getD,h]
  have hlt:∀(j:Nat) v,vs[j]? =some v->j<6:=fun j v h=>by have:=(List.getElem?_eq_some_iff.1 h).1;omega
  refine zfD vs (txF tx) (F 6) w.heap.size w3 K03.size h0 (fun j v h=>?_) (fun j k u v g hjk hu hw hg e=>?_) (fun k v b h hb e=>?_) (by omega) (fun k v h=>ndsOf_sm _)
  ·have:=hT3.own (j+1) (by have:=hlt j v h;omega)
   simp only[KG,hgd j v h] at this
   exact this
  ·have h1:=hlt j u hu
   have h2:=hlt k v hw
   have:=hT3.sep (j+1) (k+1) (by omega) (by omega) (by omega) g (by simp only[KG,hgd j u hu];exact hg)
   simp only[KG,hgd k v hw] at this
   exact this e
  ·have h1:=hlt k v h
   have:=hT3.sep 0 (k+1) (by omega) (by omega) (by omega) b (by simp only[KG];exact e)
   simp only[KG,hgd k v h] at this
   exact this hb)
 rw[<-k6] at HAP
 generalize hX:kqC=X at HC⊢
 clear hX HB hT3 hT K13 K03 K12 K2 KR hc hsz htx hvs ce hv K0 K1 HA
 rw[yy]
 simp only[k4,k5]
 generalize F2 6=lv at HAP⊢
 simp only[kqB,kq2,kq0,seqL,seqR,yM,zu,Tryz.f3,Option.getD_some]
 go_wp2_with (first|(go_at_call 17;with_reducible refine HAP.out.mono ?_;rintro e w4 ⟨rfl,hbe⟩;have HBE:=Lib.hid hbe;clear hbe))
 rw[frA_of _ (by rfl)]
 exact HC.out _ _ rfl rfl ⟨HBE.out.os.trans HK.out.os,HBE.out.output.trans HK.out.out,Nat.le_trans HK.out.size HBE.out.size,fun k hk=>(HBE.out.block k hk).trans (HK.out.block k hk)⟩
def fixT:ByteArray:=⟨#[120,32,58,61,32,49,32,45,32,50,59]⟩
theorem zfi(hP:TameProg Tryz.prog)(w0 w:World)(K0:Kin w0 w)(te:TypeId)(pe:Value)(hv:VarsOk w)(ce:w.cell? ⟨0,0,none⟩=some (.iface te pe))(s t:ByteArray)(hs:s.size<=9223372036854775807)(ht:t.size<=9223372036854775807)(F:Nat->Value)(h0:F 0= .string s)(h1:F 1= .string t)(h4:F 4= .bool false):wpB Tryz.prog kq2 (bodyPost Tryz.prog Tryz.f3 (TrueP w0)) (frA F) w:=by
 have HN:Hid (∀(F':Nat->Value) w2,F' 4= .bool false->F' 5= .slice (some ⟨w.heap.size,0,none⟩) 6 6->F' 6= .slice none 0 0->(∃T d T' d',w2=re ((re w T d).alloc (.cells #[.string s, .string s, .string t, .string s, .string fixT, .string fixT] 9)) T' d')->wpB Tryz.prog (.seq (.seq (seqL (seqL (seqR (seqR kq2)))) (.block 0 (.loop kqA3))) kqB) (bodyPost Tryz.prog Tryz.f3 (TrueP w0)) (frA F') w2):=Lib.hid (fun F' w2 k4 k5 k6 ⟨T,d,T',d',hw⟩=>by
  have KA:Kin w ((re w T d).alloc (.cells #[.string s, .string s, .string t, .string s, .string fixT, .string fixT] 9)):=(yd w T d).alloc _
  have hcel:∀(j:Nat) x,[s,s,t,s,fixT,fixT][j]? =some x->((re w T d).alloc (.cells #[.string s, .string s, .string t, .string s, .string fixT, .string fixT] 9)).cell? ⟨w.heap.size,j,none⟩=some (.string x):=fun j x hj=>by
   have:=newc (re w T d) #[.string s, .string s, .string t, .string s, .string fixT, .string fixT] 9 ([s,s,t,s,fixT,fixT].map .string) rfl j (.string x) (by rw[List.getElem?_map,hj];rfl)
   rw[add0] at this
   exact this
  have hsz:∀x∈[s,s,t,s,fixT,fixT],x.size<=9223372036854775807:=by
   have:fixT.size=11:=rfl
   intro x hx
   simp only[List.mem_cons,List.not_mem_nil,or_false] at hx
   rcases hx with rfl|rfl|rfl|rfl|rfl|rfl<;>omega
  generalize (re w T d).alloc (.cells #[.string s, .string s, .string t, .string s, .string fixT, .string fixT] 9)=wa at hw KA hcel
  have KB:Kin wa w2:=by rw[hw];exact yd wa T' d'
  exact zdQ hP wa w2 KB te pe (hv.kin KA) (cl_kin KA ce) w.heap.size _ rfl hsz hcel F' k4 k5 k6 _ (Lib.hid fun F3 vs w3 j4 j5 jv K3 hT3=>zhg hP w0 wa w3 (K0.trans KA) K3 te pe (hv.kin KA) (cl_kin KA ce) w.heap.size _ rfl hsz hcel F3 j4 j5 vs jv hT3))
 generalize bodyPost Tryz.prog Tryz.f3 (TrueP w0)=B at HN⊢
 rw[zjD]
 generalize hY:(Code.seq (.seq (seqL (seqL (seqR (seqR kq2)))) (.block 0 (.loop kqA3))) kqB)=Y at HN⊢
 clear hY hv ce K0
 refine xd hP fun T d=>?_
 generalize hZ:(Code.seq (seqL (seqR kq2)) Y)=Z
 have HZ:=Lib.hid hZ
 clear hZ
 rw[yy]
 simp only[h0,h1,h4]
 simp only[kq2,kq0,seqL,seqR,Tryz.f3,Option.getD_some]
 go_wp2
 rw[<-HZ.out]
 clear HZ
 generalize hA:World.alloc _ _=wa
 have HA:=Lib.hid hA
 clear hA
 refine xd hP fun T' d'=>?_
 simp only[kq2,kq0,seqL,seqR,Tryz.f3,Option.getD_some]
 go_wp2
 rw[frA_of _ (by rfl)]
 exact HN.out _ _ rfl rfl rfl ⟨T,d,T',d',by rw[<-HA.out];rfl⟩
theorem zhh(hP:TameProg Tryz.prog)(w:World)(hv:VarsOk w)(te:TypeId)(pe:Value)(ce:w.cell? ⟨0,0,none⟩=some (.iface te pe))(s t:ByteArray)(hs:s.size<=9223372036854775807)(ht:t.size<=9223372036854775807):CallsB Tryz.prog 3 #[.string s, .string t] w (TrueP w):=by
 have hR:∀w',¬TrueP w .outgrown w':=fun w' h=>h
 refine vu hP Tryz.func3 (c:=kq0) rfl hR ?_
 rw[zjE]
 have ha:({tmps:= #[Value.string s, .string t]++Array.replicate (Tryz.f3.ntmps- #[Value.string s, .string t].size) undef,defers:=[]}:Act)=frA (fun n=>if n=0 then .string s else if n=1 then .string t else undef):=by
  simp only[Tryz.ntmps3]
  rw[yy]
  simp[Array.replicate_succ]
 rw[ha]
 clear ha
 have HT:Hid (∀w1 (F:Nat->Value),Kin w w1->F 0= .string s->F 1= .string t->F 4= .bool false->wpB Tryz.prog kq2 (bodyPost Tryz.prog Tryz.f3 (TrueP w)) (frA F) w1):=Lib.hid (fun w1 F K1 k0 k1 k4=>zfi hP w w1 K1 te pe (hv.kin K1) (cl_kin K1 ce) s t hs ht F k0 k1 k4)
 have HF:=Lib.hid (fun w1 (K:Kin w w1)=>zft hP te pe w1 (hv.kin K) (cl_kin K ce))
 clear hv ce
 generalize hB:bodyPost Tryz.prog Tryz.f3 (TrueP w)=B at HT⊢
 clear hB
 generalize hX:kq2=X at HT⊢
 clear hX
 refine wpB_seq hP (wpB_lift hP fun T d=>?_)
 generalize hW:re w T d=w1
 have HK1:Hid (Kin w w1):=Lib.hid (by rw[<-hW];exact yd w T d)
 clear hW
 generalize hY:(Code.seq (.seq (seqL (seqL (seqR kq0))) (seqR (seqL (seqR kq0)))) X)=Y
 have HY:=Lib.hid hY
 clear hY
 rw[yy]
 simp only[kq0,seqL,seqR,Tryz.f3,Option.getD_some]
 go_wp2
 rw[<-HY.out]
 refine wpB_seq hP (wpB_seq hP ?_)
 obtain⟨id,hid⟩:=ziJ
 rw[hid]
 clear hid HY
 generalize hM:(Exit.then (wpB Tryz.prog (seqR (seqL (seqR kq0))) (Exit.then (wpB Tryz.prog X B) B)) (Exit.then (wpB Tryz.prog X B) B))=M
 have HM:Hid (∀a w',(∀T d,(seqR (seqL (seqR kq0))).wp Tryz.prog (Exit.then (wpB Tryz.prog X B) B) a (re w' T d))->M .normal a w'):=Lib.hid (fun a w' h=>by
  rw[<-hM]
  exact wpB_lift hP h)
 clear hM
 simp only[kq0,seqL,seqR,zo,Tryz.f3,Option.getD_some]
 refine qQ hP (l:=[_,_]) ?_
 refine j9 hP Tryz.func13 (by kernel_rfl) (by kernel_rfl) rfl rfl (args:= #[]) (by simp[Act.eval,xZ]) ((HF.out w1 HK1.out).mono ?_)
 rintro e w2 hpost
 cases e with
 |outgrown=>exact hpost.elim
 |panicked _=>exact hpost.elim
 |returned v=>
  obtain⟨rfl,K2⟩:=hpost
  have HK2:=Lib.hid (HK1.out.trans K2)
  clear HF HK1 K2
  show yR Tryz.prog _ _ _ _ w2
  refine listB_lift hP fun T d=>?_
  generalize hW:re w2 T d=w3
  have HK3:Hid (Kin w w3):=Lib.hid (by rw[<-hW];exact HK2.out.trans (yd w2 T d))
  clear hW HK2
  go_wp2
  refine HM.out _ _ fun T d=>?_
  generalize hW:re w3 T d=w4
  have HK4:Hid (Kin w w4):=Lib.hid (by rw[<-hW];exact HK3.out.trans (yd w3 T d))
  clear hW HK3 HM
  simp only[kq0,seqL,seqR,Tryz.f3,Option.getD_some]
  go_wp2
  rw[frA_of _ (by rfl)]
  exact HT.out w4 _ HK4.out rfl rfl rfl
open Go.ChangeShapes Go.WideShapes Go.ChangeAt Go.RowKit Go.Conc Go.Bsd
theorem zdL{W:World}(h:laidMetH Tryz.prog Rows.parseKeptRow.laid W):(∀y,y=5\/y=6\/y=7->∃cs T fz,W.heap[y]? =some (.cells cs T fz)/\∀v∈cs,PlainV v)/\
 (∀y,y=8\/y=9->∃b o T fz,W.heap[y]? =some (.cells #[.iface 253 (.pointer (some ⟨b,o,none⟩))] T fz))/\∃b,W.cell? ⟨0,0,none⟩=some (.iface 253 (.pointer (some b))):=by
 rw[MakeChecks.laidMetH_plain _ _ _ (by kernel_rfl)] at h
 obtain⟨ps,⟨g1,t1,c1,f1,p1,q1,hg1,ht1,hv1,hd1,⟨g2,t2,c2,f2,p2,q2,hg2,ht2,hv2,hd2,⟨g3,t3,c3,f3,p3,q3,hg3,ht3,hv3,hd3,⟨g4,t4,c4,f4,p4,q4,hg4,ht4,hv4,hd4,⟨g5,t5,c5,f5,p5,q5,hg5,ht5,hv5,hd5,⟨g6,t6,c6,f6,p6,q6,hg6,ht6,hv6,hd6,hq6,e6⟩,e5⟩,e4⟩,e3⟩,e2⟩,e1⟩,hnd,hrows⟩:=h
 obtain rfl:=Option.some.inj ((show Tryz.prog.globalNamed "math/bits.deBruijn32tab" =some 6 by kernel_rfl).symm.trans hg1)
 obtain rfl:=Option.some.inj ((show Tryz.prog.globalNamed "math/bits.deBruijn64tab" =some 7 by kernel_rfl).symm.trans hg2)
 obtain rfl:=Option.some.inj ((show Tryz.prog.globalNamed "internal/strconv.uint64pow10" =some 5 by kernel_rfl).symm.trans hg3)
 obtain rfl:=Option.some.inj ((show Tryz.prog.globalNamed "strconv.ErrRange" =some 9 by kernel_rfl).symm.trans hg4)
 obtain rfl:=Option.some.inj ((show Tryz.prog.globalNamed "strconv.ErrSyntax" =some 8 by kernel_rfl).symm.trans hg5)
 obtain rfl:=Option.some.inj ((show Tryz.prog.globalNamed "winnow/api.ErrReject" =some 0 by kernel_rfl).symm.trans hg6)
 obtain rfl:=Option.some.inj ((show(Tryz.prog.globals[9]?).map (·.type)=some 27 by kernel_rfl).symm.trans ht4)
 obtain rfl:=Option.some.inj ((show(Tryz.prog.globals[8]?).map (·.type)=some 27 by kernel_rfl).symm.trans ht5)
 obtain rfl:=Option.some.inj ((show(Tryz.prog.globals[0]?).map (·.type)=some 27 by kernel_rfl).symm.trans ht6)
 have hq6':q6=[]:=hq6
 subst hq6'
 have ok:∀g,MemPlace.cell g 0∈ps->∀u v,W.cell? ⟨g,0,none⟩=some (.iface u v)->Value.okWide Tryz.prog W .any 0 u v:=fun g hm u v hc=>(hrows g 0 hm).2 u v hc
 obtain rfl:=Option.some.inj ((show(Tryz.prog.globals[6]?).map (·.type)=some 245 by kernel_rfl).symm.trans ht1)
 obtain rfl:=Option.some.inj ((show(Tryz.prog.globals[7]?).map (·.type)=some 246 by kernel_rfl).symm.trans ht2)
 obtain rfl:=Option.some.inj ((show(Tryz.prog.globals[5]?).map (·.type)=some 231 by kernel_rfl).symm.trans ht3)
 have size1:∀{n:String} {g:Nat} {cs:Array Value} {fuel:Nat} {d:DataW Unit} {p:List MemPlace},DataW.trod (fun _=>()) Tryz.prog W 0 (fun _=>true) false fuel 27 cs.toList=some (.iface "*errors.errorString" d,p)->cs.size=1:=by
  intro n g cs fuel d p hd
  obtain⟨_,u,v,e,_,_⟩:=iface_of_trod Tryz.underlying27 hd
  have:cs.toList.length=1:=by rw[e];rfl
  simpa using this
 have s4:=size1 (n:= "") (g:=0) hd4
 have s5:=size1 (n:= "") (g:=0) hd5
 have s6:=size1 (n:= "") (g:=0) hd6
 have m9:MemPlace.cell 9 0∈ps:=by subst e1 e2 e3 e4;simp[MemPlace.row,s4]
 have m8:MemPlace.cell 8 0∈ps:=by subst e1 e2 e3 e4 e5;simp[MemPlace.row,s5]
 have m0:MemPlace.cell 0 0∈ps:=by subst e1 e2 e3 e4 e5 e6;simp[MemPlace.row,s6]
 obtain⟨a9,x9,k9,cs9,n9,_,r9⟩:=uO hg4 hv4 hd4 (ok 9 m9)
 obtain⟨a8,x8,k8,cs8,n8,_,r8⟩:=uO hg5 hv5 hd5 (ok 8 m8)
 obtain⟨a0,x0,k0,cs0,n0,w0,r0⟩:=uO hg6 hv6 hd6 (ok 0 m0)
 refine⟨fun y hy=>?_,fun y hy=>?_,a0,k0⟩
 ·rcases hy with rfl|rfl|rfl
  ·exact arr_laid hg3 hv3 Tryz.underlying231 Tryz.underlying217 (by kernel_rfl) (by kernel_rfl) hd3
  ·exact arr_laid hg1 hv1 Tryz.underlying245 Tryz.underlying5 (by kernel_rfl) (by kernel_rfl) hd1
  ·exact arr_laid hg2 hv2 Tryz.underlying246 Tryz.underlying5 (by kernel_rfl) (by kernel_rfl) hd2
 ·rcases hy with rfl|rfl
  ·obtain⟨T,fz,hh⟩:=uD hg5 hv5
   rw[cs8,wN n8] at hh
   exact⟨_,_,T,fz,hh⟩
  ·obtain⟨T,fz,hh⟩:=uD hg4 hv4
   rw[cs9,wN n9] at hh
   exact⟨_,_,T,fz,hh⟩
theorem zb6(os:Os)(started:os.Started)(H:Type)(enc:TypeId×Value->H):
 ReturnsInLeavingWide {} Tryz.checked os 3 .any (fun w args=>(Rows.parseKeptSpec.pre enc Tryz.prog Tryz.f3 Rows.parseKeptRow.domain false w args/\laidMetH Tryz.prog Rows.parseKeptRow.laid w)/\sizedMet enc Tryz.prog Tryz.f3 (OpenSpec.ofChange Rows.parseKeptSpec) false w args)
  (Rows.parseKeptSpec.post enc Tryz.prog Tryz.f3 false true false false):=by
 refine qA (C:=Tryz.checked) (X:=fun w _=>laidMetH Tryz.prog Rows.parseKeptRow.laid w) (fun _ _ _ hh h=>h.of_heap hh) own0 started Tryz.func3
  (ChangeSpec.witness_shaped (enc:=enc) (C:=Tryz.checked) (os:=os) (X:=fun w _=>laidMetH Tryz.prog Rows.parseKeptRow.laid w) false (World.laidAll Tryz.prog os Rows.parseKeptRow.laid) #[.string ⟨#[]⟩, .string ⟨#[]⟩] 8 (World.laidAll_os _ _ _)
   (World.shaped_of_ZipB (by kernel_rfl) (by kernel_rfl)) (by kernel_rfl) (by kernel_rfl) (by kernel_rfl)
   (by rw[MakeChecks.laidMetH_plain _ _ _ (by kernel_rfl)];exact laidMet_laidAll _ (by kernel_rfl) (by kernel_rfl))) ?_
 intro W base args ds gs before hval0 hW _ hsz0 hL _
 have hsz:(DataW.weightsEach Tryz.prog (Tryz.f3.params.toList++Rows.parseKeptSpec.plain.varTypes Tryz.prog) (ds++gs)).all (· <=reachBytes)=true:=hsz0
 have hval:∀(j:Nat) t v,Tryz.f3.params[j]? =some t->args[j]? =some v->Value.okWide Tryz.prog W .any base t v:=hval0
 have hW':=hW
 obtain⟨p,q,hA0,hV,rfl,_,_⟩:=hW
 have hA:DataW.TrodAll enc Tryz.prog W 0 (fun _=>true) true Tryz.f3.params.toList args.toList ds p:=hA0
 rw[Tryz.params3] at hA hval hsz
 obtain⟨v0,v1,d0,d1,p0,p1,rfl,rfl,rfl,h0,h1⟩:=trodAll_two hA
 obtain⟨rfl,rfl⟩:=trodVars_none hV
 obtain⟨s,rfl,rfl,rfl,ws⟩:=Go.ChangeMaps.open_string Tryz.underlying9 (hval 0 9 v0 rfl rfl) h0
 obtain⟨t,rfl,rfl,rfl,wt⟩:=Go.ChangeMaps.open_string Tryz.underlying9 (hval 1 9 v1 rfl rfl) h1
 simp only[List.append_nil] at hW'
 have hreach:s.size<=140737488355328:=by
  have:=sized_string hsz (j:=0) (t:=9) (bytes:=s.data.toList) rfl rfl
  have e:s.data.toList.length=s.size:=Array.length_toList
  rw[e] at this
  exact Nat.le_trans this (by unfold reachBytes;decide)
 have hreach2:t.size<=140737488355328:=by
  have:=sized_string hsz (j:=1) (t:=9) (bytes:=t.data.toList) rfl rfl
  have e:t.data.toList.length=t.size:=Array.length_toList
  rw[e] at this
  exact Nat.le_trans this (by unfold reachBytes;decide)
 obtain⟨l1,l2,b,hr⟩:=zdL hL
 have hsize:Tryz.prog.globals.size<=W.heap.size:=by
  obtain⟨_,_,_,_,h9⟩:=l2 9 (.inr rfl)
  have hlt:9<W.heap.size:=(Array.getElem?_eq_some_iff.1 h9).1
  have e:Tryz.prog.globals.size=10:=by kernel_rfl
  omega
 have hcall:=zhh Tryz.tame W ⟨l1,l2,hsize⟩ 253 _ hr s t (by omega) (by omega)
 have hcall2:Bsd.CallsB Tryz.prog 3 #[.string s, .string t] W (fun| .returned v,w'=>v= .bool true/\Kin W w'|_,_=>False):=hcall.mono fun e w' h=>by
  cases e with
  |returned v=>exact h
  |panicked c=>exact h
  |outgrown=>exact h
 obtain⟨M,last,o,w',t',r1,r2,r3,r4⟩:=Bsd.callsB_run Tryz.tame Tryz.func3 (Post:=fun v w'=>v= .bool true/\Kin W w') rfl (by kernel_rfl) rfl (fun v w T d h=>⟨h.1,h.2.trans (yd w T d)⟩) hcall2
 refine⟨M,last,o,w',t',r1,r2,r3,r4.mono fun v hF=>?_⟩
 obtain⟨rfl,hk⟩:=hF
 exact⟨_,_,_,[],[],[],hW',trodAll_mk1 (shut_bool Tryz.underlying4 true),trodAll_mk2 (Go.ChangeMaps.shut_string Tryz.underlying9 ws) (Go.ChangeMaps.shut_string Tryz.underlying9 wt),rfl,zb5 hk _,fun h=>by cases h⟩
theorem kept_row:Rows.ParseKeptSaid:=
 OpenClaim.holds_of_wide_leaving 3 Tryz.f3 rfl rfl rfl rfl rfl rfl rfl ⟨rfl,rfl,rfl,rfl,rfl⟩ rfl rfl rfl rfl rfl (by kernel_rfl) Tryz.func3 (by kernel_rfl)
  (of_decide_eq_true (by kernel_rfl)) (by unfold Func.isWrapper;first|(rw[if_pos (by decide+kernel)];kernel_rfl)|(rw[if_neg (by decide+kernel)];exact⟨rfl,rfl⟩))
  (fun os started H enc _=>zb6 os started H enc)
theorem kept_card:Rows.ParseKeptCardSaid:=
 wG .later [.data, .data, .data, .sentinel, .sentinel, .sentinel] true (true,"074e5f031ab4408176da533a2cefdc3afa561c3d929ccf1498e46e2ed11c108f") true
  kept_row (by kernel_rfl) parseKept_row_tie rfl ⟨rfl,rfl⟩ (by kernel_rfl) rfl
  (fun f fn hf hfn=>by
   obtain rfl:f=3:=Option.some.inj ((show Tryz.prog.funcNamed "winnow/winnowlaw03.ParseKept" =some 3 by kernel_rfl).symm.trans hf) |>.symm
   obtain rfl:fn=Tryz.f3:=(Option.some.inj (Tryz.func3.symm.trans hfn)).symm
   exact⟨by kernel_rfl,fun j t ht=>by
    rw[Tryz.params3] at ht
    have hm:t∈[9,9]:=by simpa using Array.mem_of_getElem? ht
    have hall:([9,9].all fun u=>!Tryz.prog.wantsStandIn u)=true:=by kernel_rfl
    exact(show Tryz.prog.wantsStandIn t=false by simpa using List.all_eq_true.1 hall t hm)⟩)
  (by kernel_rfl)
end Go.Proofs.YtonmcakdofbjiaaGreatDoor
