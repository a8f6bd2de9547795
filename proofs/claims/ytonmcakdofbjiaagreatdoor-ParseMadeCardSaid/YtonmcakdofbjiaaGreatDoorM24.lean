/-
  winnowlaw03.ParseMade answers true at every list of nodes and every list of numbers, and leaves them as they were: the row, and the tied card. Conditions: those of the given statement.
-/
import Derived.Test.YtonmcakdofbjiaaGreatDoorM23
import Derived.Test.YtonmcakdofbjiaaGreatDoorM21
import Derived.Deep.Cut
import Derived.Test.YtonmcakdofbjiaaGreatDoorM20
import Derived.Deep.Slices
import Derived.ChangeArms
import Derived.WideShapes
import Derived.SizedLaws
import Derived.Test.YtonmcakdofbjiaaGreatDoorM14
import Derived.ReadAgain
import Derived.Test.YtonmcakdofbjiaaGreatDoorTie
import Derived.Test.YtonmcakdofbjiaaGreatDoorCards
import Derived.ChangeMaps
import Derived.LaidLaws
import Derived.MakeChecks
import Derived.ProofKit
import Derived.OpenShut
import Derived.LaidMore
import Derived.Lay
set_option linter.all false
set_option maxRecDepth 100000
set_option maxHeartbeats 8000000
namespace Go.Proofs.YtonmcakdofbjiaaGreatDoor
open Go.RowKit
theorem zcx{st:List Opn}{begun:Bool}{n:Nd}(h:∀(j:Nat) (y:Opn),0<=j->st[j]? =some y->n.depth<=y.depth/\lacks y=false):
 yA st begun n=if n.depth≠1\/fieldsB n=false then none else if ((n.kind=0\/n.kind=1)/\begun=true)\/(¬(n.kind=0\/n.kind=1)/\zx n.kind=false) then none else some ([],begun || !(decide (n.kind=0\/n.kind=1))):=by
 have hc:rcut n.depth st=0:=zbV (.inl rfl) fun j y hj hy=>(h j y hj hy).1;unfold yA;rw[hc,if_neg (zai fun j y hj hy=>(h j y hj hy).2)];rfl
theorem zdK{st:List Opn}{begun:Bool}{n:Nd}{m:Nat}{o:Opn}(ho:st[m]? =some o)(hd:o.depth<n.depth)(h:∀(j:Nat) (y:Opn),m+1<=j->st[j]? =some y->n.depth<=y.depth/\lacks y=false):
 yA st begun n=if n.depth≠((m+1:Nat):Int)+1\/fieldsB n=false then none else if rholds o n.kind=false then none else some (st.take m++[{o with has:=o.has+1}],begun):=by
 have hc:rcut n.depth st=m+1:=zbV (.inr ⟨o,ho,hd⟩) fun j y hj hy=>(h j y hj hy).1;unfold yA;rw[hc,if_neg (zai fun j y hj hy=>(h j y hj hy).2)];simp only[ho]
theorem zY{st:List Opn}{begun:Bool}{k:Nat}{n:Nd}{l:List Nd}(hn:l[k]? =some n):rshapeG st begun k (l.drop k)=match yA st begun n with
 |none=>(33,(k:Int))
 |some (st',b')=>if 24<n.depth then (31,(k:Int)) else rshapeG (yT st' n) b' (k+1) (l.drop (k+1)):=by
 have hk:=(List.getElem?_eq_some_iff.1 hn).1;have e:l.drop k=n::l.drop (k+1):=by
  rw[List.drop_eq_getElem_cons hk]
  congr 1;exact(List.getElem?_eq_some_iff.1 hn).2
 rw[e,rshapeG];rfl
theorem Kin.grown{w W W':World}{row:Option Nat}(h:Kin w W)(g:W.grownBy W' row)(hr:∀k,row=some k->w.heap.size<=k):Kin w W':=
 ⟨g.os.trans h.os,g.output.trans h.out,Nat.le_trans h.size g.size,fun k hk=>(g.block k (Nat.lt_of_lt_of_le hk h.size) (fun e=>by have:=hr k e.symm;omega)).trans (h.block k hk)⟩
theorem zb2:(Tryz.prog.info? 105).map (fun i=>(i.zero,i.size,i.bytes))=some (some (.agg #[.int .i64 0, .int .i64 0, .int .i64 0]),3,24):=by kernel_rfl
theorem gQ(w:World)(n:Opn):∀(j:Nat) (u:Value),(opC n)[j]? =some u->(w.alloc (.cells #[.int .i64 n.depth, .int .i64 n.kind, .int .i64 n.has] 105)).cell? ((⟨w.heap.size,0,none⟩:Addr).add j)=some u:=by
 intro j u hj
 match j,hj with
 |0,hj=>simp[opC] at hj;subst hj;simp[go_sem,Addr.add]
 |1,hj=>simp[opC] at hj;subst hj;simp[go_sem,Addr.add]
 |2,hj=>simp[opC] at hj;subst hj;simp[go_sem,Addr.add]
 |n+3,hj=>simp[opC] at hj
theorem we(n:Opn):∀u∈opC n,u.oneCell'=true:=by
 intro u hu;simp only[opC,List.mem_cons,List.not_mem_nil,or_false] at hu;rcases hu with rfl|rfl|rfl<;>rfl
theorem OwnSt.pushed{w1:World}{B:Nat}{v1:Value}{st:List Opn}(o:Opn)(h:w1.ownsRow B 105 3 v1 (st.length+1) (zo st++opC o)):OwnSt w1 B v1 (st++[o]):=by
 unfold OwnSt;rw[List.length_append,qV];simpa [zo] using h
theorem zcy(l:List Nd)(hlim:∀n∈l,n.name.size<=140737488355328)(hlen:l.length<=9223372036854775807)(v:Value)(w:World)(hv:NodesAt w v l):
 Calls Tryz.prog 19 #[v] w fun e w'=>e= .returned (.tuple #[.int .i64 (rshapeF l).1, .int .i64 (rshapeF l).2])/\Kin w w':=by
 have HV:=Lib.hid hv;obtain⟨b,cap,rfl,hcap,hne⟩:=hv
 clear hne;by_cases hbig:300<l.length
 ·have hr:rshapeF l=(32,300):=by unfold rshapeF;rw[if_pos hbig]
  rw[hr];clear hr;go_enter Tryz.func19,Tryz.ntmps19;go_wp2_with fail;go_ret2
  exact⟨rfl,Kin.refl _⟩
 ·have hr:rshapeF l=rshapeG [] false 0 l:=by unfold rshapeF;rw[if_neg hbig]
  rw[hr];generalize hRR:rshapeG [] false 0 l=RR;obtain⟨rc,rp⟩:=RR
  have HRR:=Lib.hid hRR;have HLIM:=Lib.hid hlim;clear hr hRR hlim hcap;dsimp only;go_enter Tryz.func19,Tryz.ntmps19;go_wp2_with fail;go_loopg [4,5,6] l.length (fun g x y z wq=>∃(k:Nat) (st:List Opn) (begun:Bool),y= .bool begun/\z= .int .i64 k/\k<=l.length/\g=l.length-k/\OwnSt wq w.heap.size x st/\Kin w wq/\st.length<=24/\(∀o∈st,0<=o.has/\o.has<=k)/\rshapeG st begun k (l.drop k)=(rc,rp))
  case atStart=>exact⟨0,[],false,rfl,rfl,Nat.zero_le _,rfl,OwnSt.nil _ _,Kin.refl _,by decide,(fun o ho=>by cases ho),HRR.out⟩
  case round=>
   obtain⟨k,st,begun,rfl,rfl,hk,hg,hown,hkin,hst,hhas,hG⟩:=hrel
   obtain⟨wr0,hwr0⟩:∃wr0,wr0=wr:=⟨_,rfl⟩
   subst hwr0;obtain⟨bs,caps,rfl⟩:=hown.slice
   have HO:=Lib.hid hown;have HK:=Lib.hid hkin;have HH:=Lib.hid hhas;have HG:=Lib.hid hG;have HGG:=Lib.hid hg;clear hown hkin hhas hG hg;by_cases hlt:k<l.length
   ·obtain⟨⟨d,kd,nm,nu,op,at_⟩,hn⟩:∃n,l[k]? =some n:=⟨_,List.getElem?_eq_getElem hlt⟩
    obtain⟨gl,off,rfl,hcell⟩:=HV.out.at (by rintro rfl;simp at hlt)
    have cells:∀(x:Nat) (u:Value),(Nd.mk d kd nm nu op at_).cells[x]? =some u->wr0.cell? ⟨gl,off+k*6+x,none⟩=some u:=fun x u hu=>by
     have:=hcell k _ hn x u hu
     exact(HK.out.cell (World.block_lt_of_cell? w _ this)).trans this
    have r0:=cells 0 _ rfl;have r1:=cells 1 _ rfl;have r2:=cells 2 _ rfl;have r3:=cells 3 _ rfl;have r4:=cells 4 _ rfl;have r5:=cells 5 _ rfl;simp only[Nat.add_zero] at r0;have HN:=Lib.hid hn;clear cells hcell hn;go_wp2_with fail;have hWB:∃WB,WB=wr0.alloc (.cells #[.int .i64 d, .int .i64 kd, .string nm, .int .i64 nu, .int .i64 op, .int .i64 at_] 50):=⟨_,rfl⟩;obtain⟨WB,hWB⟩:=hWB
    have KB:Kin wr0 WB:=by rw[hWB];exact(Kin.refl wr0).alloc _
    have b0:WB.cell? ⟨wr0.heap.size,0,none⟩=some (.int .i64 d):=by rw[hWB];simp[go_sem]
    have b1:WB.cell? ⟨wr0.heap.size,1,none⟩=some (.int .i64 kd):=by rw[hWB];simp[go_sem]
    have b2:WB.cell? ⟨wr0.heap.size,2,none⟩=some (.string nm):=by rw[hWB];simp[go_sem]
    have b3:WB.cell? ⟨wr0.heap.size,3,none⟩=some (.int .i64 nu):=by rw[hWB];simp[go_sem]
    have b4:WB.cell? ⟨wr0.heap.size,4,none⟩=some (.int .i64 op):=by rw[hWB];simp[go_sem]
    have b5:WB.cell? ⟨wr0.heap.size,5,none⟩=some (.int .i64 at_):=by rw[hWB];simp[go_sem]
    have HKB:=Lib.hid KB;have HOB:=Lib.hid (HO.out.kin KB);clear r0 r1 r2 r3 r4 r5 KB;have hb:wr0.heap.size<WB.heap.size:=World.block_lt_of_cell? WB _ b0;have HB0:=Lib.hid b0;have HB1:=Lib.hid b1;have HB2:=Lib.hid b2;have HB3:=Lib.hid b3;have HB4:=Lib.hid b4;have HB5:=Lib.hid b5;clear b0 b1 b2 b3 b4 b5;rw[<-hWB];clear hWB;generalize hNB:wr0.heap.size=nb at hb HB0 HB1 HB2 HB3 HB4 HB5⊢;have HNB:=Lib.hid hNB;clear hNB;generalize hM:st.length=M at hst HOB⊢;have HM:=Lib.hid hM;clear hM;go_loopg [4] M (fun g x wq=>∃m:Nat,x= .slice bs m caps/\m<=M/\g=m/\Kin WB wq/\∀(j:Nat) (y:Opn),m<=j->st[j]? =some y->d<=y.depth/\lacks y=false)
    case atStart=>exact⟨M,rfl,Nat.le_refl _,rfl,Kin.refl _,fun j y hj hy=>by have:=(List.getElem?_eq_some_iff.1 hy).1;have:=HM.out;omega⟩
    case round=>
     obtain⟨m,rfl,hm,hg,hkq,hbig2⟩:=hrel
     have HGM:=Lib.hid hg;have HKQ:=Lib.hid hkq;have HBIG:=Lib.hid hbig2;have HKW:=Lib.hid (HK.out.trans HKB.out);have HQ:=Lib.hid (fun W (K:Kin WB W)=>(⟨(K.cell hb).trans HB0.out,(K.cell hb).trans HB1.out,(K.cell hb).trans HB2.out,(K.cell hb).trans HB3.out,(K.cell hb).trans HB4.out,(K.cell hb).trans HB5.out⟩:W.cell? ⟨nb,0,none⟩=some (.int .i64 d)/\W.cell? ⟨nb,1,none⟩=some (.int .i64 kd)/\W.cell? ⟨nb,2,none⟩=some (.string nm)/\W.cell? ⟨nb,3,none⟩=some (.int .i64 nu)/\W.cell? ⟨nb,4,none⟩=some (.int .i64 op)/\W.cell? ⟨nb,5,none⟩=some (.int .i64 at_)));have HS:=Lib.hid (fun W (K:Kin WB W)=>OwnSt.take (HOB.out.kin K) HM.out hm);clear hg hkq hbig2 HB0 HB1 HB2 HB3 HB4 HB5;rcases Nat.eq_zero_or_pos m with hm0|hmp
     ·subst hm0;have HR:=Lib.hid (zcx (begun:=begun) (n:=⟨d,kd,nm,nu,op,at_⟩) HBIG.out);simp only at HR
      go_wp2_with fail;go_quiet (fail)
      rename_i nq;have K1:Kin WB (wr.drewN nq):=HKQ.out.drewN nq;generalize wr.drewN nq=W1 at K1⊢;obtain⟨q0,q1,q2,q3,q4,q5⟩:=HQ.out W1 K1
      by_cases hd1:d=1
      ·subst hd1;have HF:Hid (∀W,Calls Tryz.prog 54 #[.agg #[.int .i64 1, .int .i64 kd, .string nm, .int .i64 nu, .int .i64 op, .int .i64 at_]] W fun e w'=>e= .returned (.bool (fieldsB ⟨1,kd,nm,nu,op,at_⟩))/\Kin W w'):=Lib.hid (fun W=>vZ ⟨1,kd,nm,nu,op,at_⟩ (HLIM.out _ (List.mem_of_getElem? HN.out)) W);cases hfb:fieldsB ⟨1,kd,nm,nu,op,at_⟩ with
       |false=>
        rw[hfb] at HF HR;have hres:=HG.out;rw[zY HN.out,HR.out,if_pos (.inr rfl)] at hres;obtain⟨rfl,rfl⟩:=Prod.mk.inj (show((33:Int),(k:Int))=(rc,rp) from hres)
        go_wp2_with (first|(go_at_call 54;with_reducible refine(HF.out _).mono ?_;rintro e W2 ⟨rfl,K2⟩;obtain⟨p0,p1,p2,p3,p4,p5⟩:=HQ.out W2 (K1.trans K2)));go_ret2
        exact⟨rfl,(HKW.out.trans K1).trans K2⟩
       |true=>
        rw[hfb] at HF HR;rw[if_neg (by simp)] at HR
        have HH2:Hid (∀oo∈([]:List Opn),0<=oo.has/\oo.has<=(k:Int)):=Lib.hid (fun oo hoo=>by cases hoo)
        have HST:=Lib.hid (fun W=>vW kd W);have C55:True:=trivial;by_cases hk01:kd=0\/kd=1
        ·cases begun with
         |true=>
          have hres:=HG.out;rw[zY HN.out,HR.out,if_pos (.inl ⟨hk01,rfl⟩)] at hres;obtain⟨rfl,rfl⟩:=Prod.mk.inj (show((33:Int),(k:Int))=(rc,rp) from hres)
          rcases hk01 with rfl|rfl;all_goals
           go_wp2_with (first|(go_at_call 54;with_reducible refine(HF.out _).mono ?_;rintro e W2 ⟨rfl,K2⟩;obtain⟨p0,p1,p2,p3,p4,p5⟩:=HQ.out W2 (K1.trans K2)));go_ret2
           exact⟨rfl,(HKW.out.trans K1).trans K2⟩
         |false=>
          rw[if_neg (by rintro(⟨_,h'⟩|⟨h',_⟩);exact absurd h' (by decide);exact h' hk01),decide_eq_true hk01] at HR
          obtain⟨st2,hst2⟩:∃st2:List Opn,st2=[]:=⟨_,rfl⟩
          rw[<-hst2] at HR HH2;have HL2:Hid (st2.length=0):=Lib.hid (by rw[hst2];rfl)
          have HS2:Hid (∀W,Kin WB W->OwnSt W w.heap.size (.slice bs 0 caps) st2):=Lib.hid (fun W K=>by rw[hst2];exact HS.out W K)
          clear hst2;have hnp:¬(0<rwants kd\/kd=9):=by rcases hk01 with rfl|rfl<;>decide
          have e9:(kd==9)=false:=by rcases hk01 with rfl|rfl<;>rfl
          have e01:((kd==0)=true)\/((kd==0)=false/\(kd==1)=true):=by rcases hk01 with rfl|rfl;exact .inl rfl;exact .inr ⟨rfl,rfl⟩
          clear hk01;rcases e01 with e0|⟨e0,e1⟩;all_goals
           by_cases h24:(24:Int)<1
           ·exact absurd h24 (by decide)
           ·have hG2:rshapeG (yT st2 ⟨1,kd,nm,nu,op,at_⟩) (false) (k+1) (l.drop (k+1))=(rc,rp):=by
             have hres:=HG.out;rw[zY HN.out,HR.out] at hres;rw[<-hres];exact(if_neg h24).symm
            have HG2:=Lib.hid hG2;clear hG2;have HX:=Lib.hid (fun W=>rwants_any kd W);have HP:Hid (yT st2 ⟨1,kd,nm,nu,op,at_⟩=if 0<rwants kd\/kd=9 then st2++[⟨1,kd,0⟩] else st2):=Lib.hid rfl;generalize rwants kd=x at HX HP hnp;go_wp2_with (first|(go_at_call 54;with_reducible refine(HF.out _).mono ?_;rintro e W2 ⟨rfl,K2⟩;obtain⟨p0,p1,p2,p3,p4,p5⟩:=HQ.out W2 (K1.trans K2))|(go_at_call 53;with_reducible refine(HX.out _).mono ?_;rintro e w9 ⟨rfl,he9⟩;obtain rfl:=he9.symm));go_roundg (l.length-(k+1))
            case measure=>have:=HGG.out;omega
            case rel=>
             refine⟨k+1,st2,false,rfl,by simp,by omega,rfl,HS2.out W2 (K1.trans K2),((HKW.out.trans K1).trans K2),by have:=HL2.out;first|omega|(have:=HD1.out;omega),fun oo hoo=>by have:=HH2.out oo hoo;omega,?_⟩
             have:=HG2.out
             rw[HP.out,if_neg (by omega)] at this
             exact this
        ·have e0:(kd==0)=false:=by simp;omega
         have e1:(kd==1)=false:=by simp;omega
         cases hsb:zx kd with
         |false=>
          rw[hsb] at HST;have hres:=HG.out;rw[zY HN.out,HR.out,if_pos (.inr ⟨hk01,hsb⟩)] at hres;obtain⟨rfl,rfl⟩:=Prod.mk.inj (show((33:Int),(k:Int))=(rc,rp) from hres)
          cases begun;all_goals
           go_wp2_with (first|(go_at_call 54;with_reducible refine(HF.out _).mono ?_;rintro e W2 ⟨rfl,K2⟩;obtain⟨p0,p1,p2,p3,p4,p5⟩:=HQ.out W2 (K1.trans K2))|(go_at_call 55;with_reducible refine(HST.out _).mono ?_;rintro e w9 ⟨rfl,he9⟩;obtain rfl:=he9.symm));go_ret2
           exact⟨rfl,(HKW.out.trans K1).trans K2⟩
         |true=>
          rw[hsb] at HST;rw[if_neg (by rintro(⟨h',_⟩|⟨_,h'⟩);exact hk01 h';rw[hsb] at h';cases h'),decide_eq_false hk01] at HR
          obtain⟨st2,hst2⟩:∃st2:List Opn,st2=[]:=⟨_,rfl⟩
          rw[<-hst2] at HR HH2;have HL2:Hid (st2.length=0):=Lib.hid (by rw[hst2];rfl)
          have HS2:Hid (∀W,Kin WB W->OwnSt W w.heap.size (.slice bs 0 caps) st2):=Lib.hid (fun W K=>by rw[hst2];exact HS.out W K)
          clear hst2 hk01 hsb;have eb:(begun || !false)=true:=by simp
          rw[eb] at HR;clear eb;cases begun;all_goals
           by_cases h24:(24:Int)<1
           ·exact absurd h24 (by decide)
           ·have hG2:rshapeG (yT st2 ⟨1,kd,nm,nu,op,at_⟩) (true) (k+1) (l.drop (k+1))=(rc,rp):=by
             have hres:=HG.out;rw[zY HN.out,HR.out] at hres;rw[<-hres];exact(if_neg h24).symm
            have HG2:=Lib.hid hG2;clear hG2;have HX:=Lib.hid (fun W=>rwants_any kd W);have HP:Hid (yT st2 ⟨1,kd,nm,nu,op,at_⟩=if 0<rwants kd\/kd=9 then st2++[⟨1,kd,0⟩] else st2):=Lib.hid rfl;generalize rwants kd=x at HX HP;obtain⟨ti,hi,hz0,hz1,hz2⟩:=info_parts zb2
            by_cases hx:0<x
            ·go_upto_region 29 with(first|(go_at_call 54;with_reducible refine(HF.out _).mono ?_;rintro e W2 ⟨rfl,K2⟩;obtain⟨p0,p1,p2,p3,p4,p5⟩:=HQ.out W2 (K1.trans K2))|(go_at_call 55;with_reducible refine(HST.out _).mono ?_;rintro e w9 ⟨rfl,he9⟩;obtain rfl:=he9.symm)|(go_at_call 53;with_reducible refine(HX.out _).mono ?_;rintro e w9 ⟨rfl,he9⟩;obtain rfl:=he9.symm))
             have hkin0:=((HKW.out.trans K1).trans K2);have hown0:=HS2.out W2 (K1.trans K2);generalize hV:(.slice bs 0 caps:Value)=sv at hown0⊢;clear hV;go_wp2_with (at_builtin;refine wpList_append_own _ rfl (.tmp 131) (.tmp 136) 103 rfl w.heap.size 105 ti _ 3 24 Tryz.underlying103 hi hz0 hz1 hz2 rfl (by decide) sv st2.length (zo st2) rfl (World.ownsRow.alloc (show World.ownsRow _ w.heap.size 105 3 sv st2.length (zo st2) from hown0) _) ⟨_,0,none⟩ 1 1 (opC ⟨1,kd,0⟩) rfl rfl (gQ _ ⟨1,kd,0⟩) (we _) (by have:=HL2.out;unfold maxLen;omega) (by have:=HL2.out;omega) (Nat.le_trans hkin0.size (by simp)) ?_;intro v1 w1 hown1 hgrow1 _);go_roundg (l.length-(k+1))
             case measure=>have:=HGG.out;omega
             case rel=>
              refine⟨k+1,st2++[⟨1,kd,0⟩],true,rfl,by simp,by omega,rfl,OwnSt.pushed ⟨1,kd,0⟩ hown1,(hkin0.alloc _).grown hgrow1 (fun kk hkk=>((show World.ownsRow _ w.heap.size 105 3 sv st2.length (zo st2) from hown0).lt kk hkk).1),?_,?_,?_⟩
              ·have:=HL2.out
               simp;first|omega|(have:=HD1.out;omega)
              ·intro oo hoo;rcases List.mem_append.1 hoo with h'|h'
               ·have:=HH2.out oo h'
                omega
               ·have:oo=⟨1,kd,0⟩:=by simpa using h'
                subst this;exact⟨Int.le_refl _,by show(0:Int)<=_;omega⟩
              ·have:=HG2.out
               rw[HP.out,if_pos (by first|exact .inl hx|exact .inr trivial|exact .inr rfl)] at this
               exact this
            ·by_cases h9:kd=9
             ·subst h9;go_upto_region 29 with(first|(go_at_call 54;with_reducible refine(HF.out _).mono ?_;rintro e W2 ⟨rfl,K2⟩;obtain⟨p0,p1,p2,p3,p4,p5⟩:=HQ.out W2 (K1.trans K2))|(go_at_call 55;with_reducible refine(HST.out _).mono ?_;rintro e w9 ⟨rfl,he9⟩;obtain rfl:=he9.symm)|(go_at_call 53;with_reducible refine(HX.out _).mono ?_;rintro e w9 ⟨rfl,he9⟩;obtain rfl:=he9.symm))
              have hkin0:=((HKW.out.trans K1).trans K2);have hown0:=HS2.out W2 (K1.trans K2);generalize hV:(.slice bs 0 caps:Value)=sv at hown0⊢;clear hV;go_wp2_with (at_builtin;refine wpList_append_own _ rfl (.tmp 131) (.tmp 136) 103 rfl w.heap.size 105 ti _ 3 24 Tryz.underlying103 hi hz0 hz1 hz2 rfl (by decide) sv st2.length (zo st2) rfl (World.ownsRow.alloc (show World.ownsRow _ w.heap.size 105 3 sv st2.length (zo st2) from hown0) _) ⟨_,0,none⟩ 1 1 (opC ⟨1,9,0⟩) rfl rfl (gQ _ ⟨1,9,0⟩) (we _) (by have:=HL2.out;unfold maxLen;omega) (by have:=HL2.out;omega) (Nat.le_trans hkin0.size (by simp)) ?_;intro v1 w1 hown1 hgrow1 _);go_roundg (l.length-(k+1))
              case measure=>have:=HGG.out;omega
              case rel=>
               refine⟨k+1,st2++[⟨1,9,0⟩],true,rfl,by simp,by omega,rfl,OwnSt.pushed ⟨1,9,0⟩ hown1,(hkin0.alloc _).grown hgrow1 (fun kk hkk=>((show World.ownsRow _ w.heap.size 105 3 sv st2.length (zo st2) from hown0).lt kk hkk).1),?_,?_,?_⟩
               ·have:=HL2.out
                simp;first|omega|(have:=HD1.out;omega)
               ·intro oo hoo;rcases List.mem_append.1 hoo with h'|h'
                ·have:=HH2.out oo h'
                 omega
                ·have:oo=⟨1,9,0⟩:=by simpa using h'
                 subst this;exact⟨Int.le_refl _,by show(0:Int)<=_;omega⟩
               ·have:=HG2.out
                rw[HP.out,if_pos (by first|exact .inl hx|exact .inr trivial|exact .inr rfl)] at this
                exact this
             ·have e9:(kd==9)=false:=by simpa using h9
              go_wp2_with (first|(go_at_call 54;with_reducible refine(HF.out _).mono ?_;rintro e W2 ⟨rfl,K2⟩;obtain⟨p0,p1,p2,p3,p4,p5⟩:=HQ.out W2 (K1.trans K2))|(go_at_call 55;with_reducible refine(HST.out _).mono ?_;rintro e w9 ⟨rfl,he9⟩;obtain rfl:=he9.symm)|(go_at_call 53;with_reducible refine(HX.out _).mono ?_;rintro e w9 ⟨rfl,he9⟩;obtain rfl:=he9.symm));go_roundg (l.length-(k+1))
              case measure=>have:=HGG.out;omega
              case rel=>
               refine⟨k+1,st2,true,rfl,by simp,by omega,rfl,HS2.out W2 (K1.trans K2),((HKW.out.trans K1).trans K2),by have:=HL2.out;first|omega|(have:=HD1.out;omega),fun oo hoo=>by have:=HH2.out oo hoo;omega,?_⟩
               have:=HG2.out
               rw[HP.out,if_neg (by omega)] at this
               exact this
      ·have hres:=HG.out;rw[zY HN.out,HR.out,if_pos (.inl hd1)] at hres;obtain⟨rfl,rfl⟩:=Prod.mk.inj (show((33:Int),(k:Int))=(rc,rp) from hres)
       go_wp2_with fail;go_ret2
       exact⟨rfl,HKW.out.trans K1⟩
     ·skip
      obtain⟨m,rfl⟩:∃m',m=m'+1:=⟨m-1,by omega⟩
      have hst1:(st.take (m+1)).length=m+1:=by have:=HM.out;simp;omega
      obtain⟨gs,cs,hv2,hgs,hgl,hcs⟩:=(HS.out WB (Kin.refl _)).form hst1
      cases hv2;have hgnb:gs<nb:=by
       obtain⟨g9,c9,hv9,_,h9,_⟩:=(show OwnSt wr0 w.heap.size (.slice (some ⟨gs,0,none⟩) st.length caps) st from HO.out).form (m:=st.length-1) (by have:=HM.out;omega)
       simp only[Value.slice.injEq,Option.some.injEq,Addr.mk.injEq,and_true] at hv9;obtain⟨rfl,_,_⟩:=hv9
       have:=HNB.out
       omega
      obtain⟨⟨od,ok,oh⟩,ho⟩:∃o,st[m]? =some o:=⟨_,List.getElem?_eq_getElem (by have:=HM.out;omega)⟩
      have ho2:(st.take (m+1))[m]? =some ⟨od,ok,oh⟩:=by rw[List.getElem?_take,if_pos (by omega)];exact ho
      have hoh:=HH.out _ (List.mem_of_getElem? ho);simp only at hoh
      have HT:Hid (∀W,Kin WB W->W.cell? ⟨gs,m*3,none⟩=some (.int .i64 od)/\W.cell? ⟨gs,m*3+1,none⟩=some (.int .i64 ok)/\W.cell? ⟨gs,m*3+2,none⟩=some (.int .i64 oh)):=Lib.hid (fun W K=>(HS.out W K).cell ho2);have HFZ:Hid (∀W,Kin WB W->W.frozen? ⟨gs,m*3+2,none⟩=false):=Lib.hid (fun W K=>(HS.out W K).froz hst1 _);have HHO:=Lib.hid ho;have HHO2:=Lib.hid ho2;have HST1:=Lib.hid hst1;have HGS:=Lib.hid hgs;clear ho ho2 hst1 hgs hgl;obtain⟨q0,q1,q2,q3,q4,q5⟩:=HQ.out wr HKQ.out
      obtain⟨t0,t1,t2⟩:=HT.out wr HKQ.out
      by_cases hd:d<=od
      ·go_wp2_with fail;go_quiet (fail)
       rename_i nq;have K1:Kin WB (wr.drewN nq):=HKQ.out.drewN nq;generalize wr.drewN nq=W1 at K1⊢;obtain⟨p0,p1,p2,p3,p4,p5⟩:=HQ.out W1 K1
       obtain⟨x0,x1,x2⟩:=HT.out W1 K1
       clear q0 q1 q2 q3 q4 q5 t0 t1 t2;have HXO:=Lib.hid (fun W=>rwants_any ok W);have HLK:Hid (lacks ⟨od,ok,oh⟩=decide (oh<rwants ok)):=Lib.hid rfl;generalize rwants ok=x at HXO HLK;by_cases hlk:oh<x
       ·have hres:=HG.out;rw[zY HN.out,zag HHO.out (by rw[HLK.out];exact decide_eq_true hlk) (fun j y hj hy=>by
         rcases Nat.eq_or_lt_of_le hj with rfl|hj'
         ·rw[HHO.out] at hy;cases hy;exact hd
         ·exact(HBIG.out j y (by omega) hy).1)] at hres
        obtain⟨rfl,rfl⟩:=Prod.mk.inj (show((33:Int),(k:Int))=(rc,rp) from hres)
        go_wp2_with fail;have K2:=Lib.hid (K1.alloc (.cells #[.int .i64 od, .int .i64 ok, .int .i64 oh] 105));go_quiet ((go_at_call 53;exact Calls.quiet_of_same (HXO.out _)))
        go_wp2_with fail;go_ret2
        exact⟨rfl,(HKW.out.trans K2.out).drewN _⟩
       ·have hge:x<=oh:=Int.not_lt.1 hlk;have hdx:decide (oh<x)=false:=decide_eq_false hlk;have hpx:(oh<x)=False:=eq_false hlk;go_wp2_with fail;have K2:=Lib.hid (K1.alloc (.cells #[.int .i64 od, .int .i64 ok, .int .i64 oh] 105));go_quiet ((go_at_call 53;exact Calls.quiet_of_same (HXO.out _)))
        go_wp2_with fail;go_roundg m
        case measure=>have:=HGM.out;omega
        case rel=>
         refine⟨m,rfl,by omega,rfl,K2.out.drewN _,fun j y hj hy=>?_⟩
         rcases Nat.eq_or_lt_of_le hj with rfl|hj'
         ·rw[HHO.out] at hy;cases hy;exact⟨hd,by rw[HLK.out];exact hdx⟩
         ·exact HBIG.out j y (by omega) hy
      ·have hd':od<d:=by omega
       have HR:=Lib.hid (zdK (begun:=begun) (n:=⟨d,kd,nm,nu,op,at_⟩) HHO.out hd' HBIG.out);simp only at HR
       go_wp2_with fail;go_quiet (fail)
       rename_i nq;have K1:Kin WB (wr.drewN nq):=HKQ.out.drewN nq;generalize wr.drewN nq=W1 at K1⊢;clear q0 q1 q2 q3 q4 q5 t0 t1 t2;obtain⟨q0,q1,q2,q3,q4,q5⟩:=HQ.out W1 K1
       obtain⟨t0,t1,t2⟩:=HT.out W1 K1
       by_cases hd1:d=m+1+1
       ·have HF:Hid (∀W,Calls Tryz.prog 54 #[.agg #[.int .i64 d, .int .i64 kd, .string nm, .int .i64 nu, .int .i64 op, .int .i64 at_]] W fun e w'=>e= .returned (.bool (fieldsB ⟨d,kd,nm,nu,op,at_⟩))/\Kin W w'):=Lib.hid (fun W=>vZ ⟨d,kd,nm,nu,op,at_⟩ (HLIM.out _ (List.mem_of_getElem? HN.out)) W);have hd0:(d !=(m:Int)+1+1)=false:=by simp[hd1]
        have hd00:(d==(m:Int)+1+1)=true:=by simp[hd1]
        cases hfb:fieldsB ⟨d,kd,nm,nu,op,at_⟩ with
        |false=>
         rw[hfb] at HF HR;have hres:=HG.out;rw[zY HN.out,HR.out,if_pos (.inr rfl)] at hres;obtain⟨rfl,rfl⟩:=Prod.mk.inj (show((33:Int),(k:Int))=(rc,rp) from hres)
         clear hd1;go_wp2_with (first|(go_at_call 54;with_reducible refine(HF.out _).mono ?_;rintro e W2 ⟨rfl,K2⟩;obtain⟨p0,p1,p2,p3,p4,p5⟩:=HQ.out W2 (K1.trans K2);obtain⟨x0,x1,x2⟩:=HT.out W2 (K1.trans K2)));go_ret2
         exact⟨rfl,(HKW.out.trans K1).trans K2⟩
        |true=>
         rw[hfb] at HF HR;rw[if_neg (by simp[hd1])] at HR
         have HRH:=Lib.hid (fun W=>zcz od ok oh kd W);cases hrh:rholds ⟨od,ok,oh⟩ kd with
         |false=>
          rw[hrh] at HRH HR;have hres:=HG.out;rw[zY HN.out,HR.out,if_pos rfl] at hres;obtain⟨rfl,rfl⟩:=Prod.mk.inj (show((33:Int),(k:Int))=(rc,rp) from hres)
          clear hd1;go_wp2_with (first|(go_at_call 54;with_reducible refine(HF.out _).mono ?_;rintro e W2 ⟨rfl,K2⟩;obtain⟨p0,p1,p2,p3,p4,p5⟩:=HQ.out W2 (K1.trans K2);obtain⟨x0,x1,x2⟩:=HT.out W2 (K1.trans K2))|(go_at_call 56;with_reducible refine(HRH.out _).mono ?_;rintro e W3 ⟨rfl,K3⟩;obtain⟨y0,y1,y2⟩:=HT.out W3 ((K1.trans K2).trans K3);obtain⟨z0,z1,z2,z3,z4,z5⟩:=HQ.out W3 ((K1.trans K2).trans K3);have zf:=HFZ.out W3 ((K1.trans K2).trans K3)));go_ret2
          exact⟨rfl,((HKW.out.trans K1).trans K2).trans K3⟩
         |true=>
          rw[hrh] at HRH HR;rw[if_neg (by simp)] at HR
          obtain⟨st2,hst2⟩:∃st2:List Opn,st2=st.take m++[⟨od,ok,oh+1⟩]:=⟨_,rfl⟩
          have HL2:Hid (st2.length=m+1):=Lib.hid (by rw[hst2];have:=HM.out;simp;omega)
          have HH2:Hid (∀oo∈st2,0<=oo.has/\oo.has<=(k:Int)+1):=Lib.hid (fun oo hoo=>by
           rw[hst2] at hoo;rcases List.mem_append.1 hoo with h'|h'
           ·have:=HH.out oo (List.mem_of_mem_take h')
            omega
           ·have:oo=⟨od,ok,oh+1⟩:=by simpa using h'
            subst this;show 0<=oh+1/\oh+1<=(k:Int)+1;omega)
          have HS2:Hid (∀W,Kin WB W->OwnSt (W.setCell ⟨gs,m*3+2,none⟩ (.int .i64 (oh+1))) w.heap.size (.slice (some ⟨gs,0,none⟩) (m+1) caps) st2):=Lib.hid (fun W K=>by
           rw[hst2];have:=(HS.out W K).setHas HST1.out HHO2.out (oh+1)
           rw[List.take_take,Nat.min_eq_left (by omega)] at this
           exact this)
          have HK2:Hid (∀W,Kin WB W->Kin w (W.setCell ⟨gs,m*3+2,none⟩ (.int .i64 (oh+1)))):=Lib.hid (fun W K=>(HKW.out.trans K).grown (zB W gs (m*3+2) _) (fun kk hkk=>by cases hkk;exact HGS.out))
          rw[<-hst2] at HR;clear hst2;have hne1:¬gs=nb:=by omega
          have hne2:¬nb=gs:=by omega
          have HD1:=Lib.hid hd1;clear hd1;by_cases h24:24<(d:Int)
          ·have hres:=HG.out;rw[zY HN.out,HR.out] at hres;obtain⟨rfl,rfl⟩:=Prod.mk.inj (show((31:Int),(k:Int))=(rc,rp) from by rw[<-hres];exact(if_pos h24).symm)
           go_wp2_with (first|(go_at_call 54;with_reducible refine(HF.out _).mono ?_;rintro e W2 ⟨rfl,K2⟩;obtain⟨p0,p1,p2,p3,p4,p5⟩:=HQ.out W2 (K1.trans K2);obtain⟨x0,x1,x2⟩:=HT.out W2 (K1.trans K2))|(go_at_call 56;with_reducible refine(HRH.out _).mono ?_;rintro e W3 ⟨rfl,K3⟩;obtain⟨y0,y1,y2⟩:=HT.out W3 ((K1.trans K2).trans K3);obtain⟨z0,z1,z2,z3,z4,z5⟩:=HQ.out W3 ((K1.trans K2).trans K3);have zf:=HFZ.out W3 ((K1.trans K2).trans K3)));go_ret2
           exact⟨rfl,(HK2.out W3 ((K1.trans K2).trans K3))⟩
          ·have hG2:rshapeG (yT st2 ⟨d,kd,nm,nu,op,at_⟩) (begun) (k+1) (l.drop (k+1))=(rc,rp):=by
            have hres:=HG.out;rw[zY HN.out,HR.out] at hres;rw[<-hres];exact(if_neg h24).symm
           have HG2:=Lib.hid hG2;clear hG2;have HX:=Lib.hid (fun W=>rwants_any kd W);have HP:Hid (yT st2 ⟨d,kd,nm,nu,op,at_⟩=if 0<rwants kd\/kd=9 then st2++[⟨d,kd,0⟩] else st2):=Lib.hid rfl;generalize rwants kd=x at HX HP;obtain⟨ti,hi,hz0,hz1,hz2⟩:=info_parts zb2
           by_cases hx:0<x
           ·go_upto_region 29 with(first|(go_at_call 54;with_reducible refine(HF.out _).mono ?_;rintro e W2 ⟨rfl,K2⟩;obtain⟨p0,p1,p2,p3,p4,p5⟩:=HQ.out W2 (K1.trans K2);obtain⟨x0,x1,x2⟩:=HT.out W2 (K1.trans K2))|(go_at_call 56;with_reducible refine(HRH.out _).mono ?_;rintro e W3 ⟨rfl,K3⟩;obtain⟨y0,y1,y2⟩:=HT.out W3 ((K1.trans K2).trans K3);obtain⟨z0,z1,z2,z3,z4,z5⟩:=HQ.out W3 ((K1.trans K2).trans K3);have zf:=HFZ.out W3 ((K1.trans K2).trans K3))|(go_at_call 53;with_reducible refine(HX.out _).mono ?_;rintro e w9 ⟨rfl,he9⟩;obtain rfl:=he9.symm))
            have hkin0:=(HK2.out W3 ((K1.trans K2).trans K3));have hown0:=HS2.out W3 ((K1.trans K2).trans K3);generalize hV:(.slice (some ⟨gs,0,none⟩) (m+1) caps:Value)=sv at hown0⊢;clear hV;have c9:World.cell? (W3.setCell ⟨gs,m*3+2,none⟩ (.int .i64 (oh+1))) ⟨nb,0,none⟩=some (.int .i64 d):=by simp[go_sem,hne1,hne2,z0]
            generalize W3.setCell ⟨gs,m*3+2,none⟩ (.int .i64 (oh+1))=W9 at hown0 hkin0 c9⊢;go_wp2_with (at_builtin;refine wpList_append_own _ rfl (.tmp 131) (.tmp 136) 103 rfl w.heap.size 105 ti _ 3 24 Tryz.underlying103 hi hz0 hz1 hz2 rfl (by decide) sv st2.length (zo st2) rfl (World.ownsRow.alloc (show World.ownsRow _ w.heap.size 105 3 sv st2.length (zo st2) from hown0) _) ⟨_,0,none⟩ 1 1 (opC ⟨d,kd,0⟩) rfl rfl (gQ _ ⟨d,kd,0⟩) (we _) (by have:=HL2.out;unfold maxLen;omega) (by have:=HL2.out;omega) (Nat.le_trans hkin0.size (by simp)) ?_;intro v1 w1 hown1 hgrow1 _);go_roundg (l.length-(k+1))
            case measure=>have:=HGG.out;omega
            case rel=>
             refine⟨k+1,st2++[⟨d,kd,0⟩],begun,rfl,by simp,by omega,rfl,OwnSt.pushed ⟨d,kd,0⟩ hown1,(hkin0.alloc _).grown hgrow1 (fun kk hkk=>((show World.ownsRow _ w.heap.size 105 3 sv st2.length (zo st2) from hown0).lt kk hkk).1),?_,?_,?_⟩
             ·have:=HL2.out
              simp;first|omega|(have:=HD1.out;omega)
             ·intro oo hoo;rcases List.mem_append.1 hoo with h'|h'
              ·have:=HH2.out oo h'
               omega
              ·have:oo=⟨d,kd,0⟩:=by simpa using h'
               subst this;exact⟨Int.le_refl _,by show(0:Int)<=_;omega⟩
             ·have:=HG2.out
              rw[HP.out,if_pos (by first|exact .inl hx|exact .inr trivial|exact .inr rfl)] at this
              exact this
           ·by_cases h9:kd=9
            ·subst h9;go_upto_region 29 with(first|(go_at_call 54;with_reducible refine(HF.out _).mono ?_;rintro e W2 ⟨rfl,K2⟩;obtain⟨p0,p1,p2,p3,p4,p5⟩:=HQ.out W2 (K1.trans K2);obtain⟨x0,x1,x2⟩:=HT.out W2 (K1.trans K2))|(go_at_call 56;with_reducible refine(HRH.out _).mono ?_;rintro e W3 ⟨rfl,K3⟩;obtain⟨y0,y1,y2⟩:=HT.out W3 ((K1.trans K2).trans K3);obtain⟨z0,z1,z2,z3,z4,z5⟩:=HQ.out W3 ((K1.trans K2).trans K3);have zf:=HFZ.out W3 ((K1.trans K2).trans K3))|(go_at_call 53;with_reducible refine(HX.out _).mono ?_;rintro e w9 ⟨rfl,he9⟩;obtain rfl:=he9.symm))
             have hkin0:=(HK2.out W3 ((K1.trans K2).trans K3));have hown0:=HS2.out W3 ((K1.trans K2).trans K3);generalize hV:(.slice (some ⟨gs,0,none⟩) (m+1) caps:Value)=sv at hown0⊢;clear hV;have c9:World.cell? (W3.setCell ⟨gs,m*3+2,none⟩ (.int .i64 (oh+1))) ⟨nb,0,none⟩=some (.int .i64 d):=by simp[go_sem,hne1,hne2,z0]
             generalize W3.setCell ⟨gs,m*3+2,none⟩ (.int .i64 (oh+1))=W9 at hown0 hkin0 c9⊢;go_wp2_with (at_builtin;refine wpList_append_own _ rfl (.tmp 131) (.tmp 136) 103 rfl w.heap.size 105 ti _ 3 24 Tryz.underlying103 hi hz0 hz1 hz2 rfl (by decide) sv st2.length (zo st2) rfl (World.ownsRow.alloc (show World.ownsRow _ w.heap.size 105 3 sv st2.length (zo st2) from hown0) _) ⟨_,0,none⟩ 1 1 (opC ⟨d,9,0⟩) rfl rfl (gQ _ ⟨d,9,0⟩) (we _) (by have:=HL2.out;unfold maxLen;omega) (by have:=HL2.out;omega) (Nat.le_trans hkin0.size (by simp)) ?_;intro v1 w1 hown1 hgrow1 _);go_roundg (l.length-(k+1))
             case measure=>have:=HGG.out;omega
             case rel=>
              refine⟨k+1,st2++[⟨d,9,0⟩],begun,rfl,by simp,by omega,rfl,OwnSt.pushed ⟨d,9,0⟩ hown1,(hkin0.alloc _).grown hgrow1 (fun kk hkk=>((show World.ownsRow _ w.heap.size 105 3 sv st2.length (zo st2) from hown0).lt kk hkk).1),?_,?_,?_⟩
              ·have:=HL2.out
               simp;first|omega|(have:=HD1.out;omega)
              ·intro oo hoo;rcases List.mem_append.1 hoo with h'|h'
               ·have:=HH2.out oo h'
                omega
               ·have:oo=⟨d,9,0⟩:=by simpa using h'
                subst this;exact⟨Int.le_refl _,by show(0:Int)<=_;omega⟩
              ·have:=HG2.out
               rw[HP.out,if_pos (by first|exact .inl hx|exact .inr trivial|exact .inr rfl)] at this
               exact this
            ·have e9:(kd==9)=false:=by simpa using h9
             go_wp2_with (first|(go_at_call 54;with_reducible refine(HF.out _).mono ?_;rintro e W2 ⟨rfl,K2⟩;obtain⟨p0,p1,p2,p3,p4,p5⟩:=HQ.out W2 (K1.trans K2);obtain⟨x0,x1,x2⟩:=HT.out W2 (K1.trans K2))|(go_at_call 56;with_reducible refine(HRH.out _).mono ?_;rintro e W3 ⟨rfl,K3⟩;obtain⟨y0,y1,y2⟩:=HT.out W3 ((K1.trans K2).trans K3);obtain⟨z0,z1,z2,z3,z4,z5⟩:=HQ.out W3 ((K1.trans K2).trans K3);have zf:=HFZ.out W3 ((K1.trans K2).trans K3))|(go_at_call 53;with_reducible refine(HX.out _).mono ?_;rintro e w9 ⟨rfl,he9⟩;obtain rfl:=he9.symm));go_roundg (l.length-(k+1))
             case measure=>have:=HGG.out;omega
             case rel=>
              refine⟨k+1,st2,begun,rfl,by simp,by omega,rfl,HS2.out W3 ((K1.trans K2).trans K3),(HK2.out W3 ((K1.trans K2).trans K3)),by have:=HL2.out;first|omega|(have:=HD1.out;omega),fun oo hoo=>by have:=HH2.out oo hoo;omega,?_⟩
              have:=HG2.out
              rw[HP.out,if_neg (by omega)] at this
              exact this
       ·have hd0:(d !=(m:Int)+1+1)=true:=by simp[hd1]
        have hres:=HG.out;rw[zY HN.out,HR.out,if_pos (.inl (by simpa using hd1))] at hres
        obtain⟨rfl,rfl⟩:=Prod.mk.inj (show((33:Int),(k:Int))=(rc,rp) from hres)
        clear hd1;go_wp2_with fail;go_ret2
        exact⟨rfl,HKW.out.trans K1⟩
   ·obtain rfl:k=l.length:=by omega
    have hres:(if st.any lacks=true then ((33:Int),(l.length:Int)) else (0,0))=(rc,rp):=by
     have h':=HG.out;rw[List.drop_length] at h';exact h'
    have HRES:=Lib.hid hres;clear hres;generalize hM:st.length=M at hst HO⊢;have HM:=Lib.hid hM;clear hM;go_wp2_with fail;go_loopg [12] M (fun g x wq=>∃j:Nat,x= .int .i64 j/\j<=M/\g=M-j/\Kin wr0 wq/\∀(i:Nat) (y:Opn),i<j->st[i]? =some y->lacks y=false)
    case atStart=>exact⟨0,rfl,Nat.zero_le _,rfl,Kin.refl _,fun i y hi hy=>by omega⟩
    case round=>
     obtain⟨j,rfl,hj,hg,hkq,hno⟩:=hrel
     have HGM:=Lib.hid hg;have HKQ:=Lib.hid hkq;have HNO:=Lib.hid hno;clear hg hkq hno;by_cases hjl:j<M
     ·obtain⟨⟨od,ok,oh⟩,ho⟩:∃o,st[j]? =some o:=⟨_,List.getElem?_eq_getElem (by have:=HM.out;omega)⟩
      obtain⟨m,rfl⟩:∃m,M=m+1:=⟨M-1,by omega⟩
      have hOq:=HO.out.kin HKQ.out;obtain⟨gs,cs,hv2,_,_,_⟩:=hOq.form HM.out
      cases hv2;obtain⟨t0,t1,t2⟩:=hOq.cell ho
      simp only at t0 t1 t2
      have HXO:=Lib.hid (fun W=>rwants_any ok W);have HLK:Hid (lacks ⟨od,ok,oh⟩=decide (oh<rwants ok)):=Lib.hid rfl;generalize rwants ok=x at HXO HLK;have HHO:=Lib.hid ho;clear ho hOq;by_cases hlk:oh<x
      ·have hany:st.any lacks=true:=by
        rw[List.any_eq_true];exact⟨_,List.mem_of_getElem? HHO.out,by rw[HLK.out];exact decide_eq_true hlk⟩
       have h':=HRES.out;rw[if_pos hany] at h';obtain⟨rfl,rfl⟩:=Prod.mk.inj (show((33:Int),(l.length:Int))=(rc,rp) from h')
       go_wp2_with fail;go_quiet ((go_at_call 53;exact Calls.quiet_of_same (HXO.out _)))
       go_wp2_with fail;go_ret2
       exact⟨rfl,(HK.out.trans HKQ.out).drewN _⟩
      ·have hge:x<=oh:=Int.not_lt.1 hlk;have hdx:decide (oh<x)=false:=decide_eq_false hlk;have hpx:(oh<x)=False:=eq_false hlk;go_wp2_with fail;go_quiet ((go_at_call 53;exact Calls.quiet_of_same (HXO.out _)))
       go_wp2_with fail;go_roundg (m+1-(j+1))
       case measure=>have:=HGM.out;omega
       case rel=>
        refine⟨j+1,by simp,by omega,rfl,HKQ.out.drewN _,fun i y hi hy=>?_⟩
        by_cases e:i=j
        ·subst e;rw[HHO.out] at hy;cases hy;rw[HLK.out];exact hdx
        ·exact HNO.out i y (by omega) hy
     ·have hany:¬st.any lacks=true:=by
       rw[List.any_eq_true];rintro⟨y,hy,hl⟩
       obtain⟨i,hi⟩:=List.mem_iff_getElem?.1 hy
       rw[HNO.out i y (by have:=(List.getElem?_eq_some_iff.1 hi).1;have:=HM.out;omega) hi] at hl
       cases hl
      have h':=HRES.out;rw[if_neg hany] at h';obtain⟨rfl,rfl⟩:=Prod.mk.inj (show((0:Int),(0:Int))=(rc,rp) from h')
      go_wp2_with fail;go_ret2
      exact⟨rfl,HK.out.trans HKQ.out⟩
open Go.RowKit Go.Bsd
theorem rs_deep:∀(l:List Nd) (st:List Opn) (b:Bool) (i:Nat),rshapeG st b i l=(0,0)->∀n∈l,n.depth<=24
 |[],_,_,_,_,n,hn=>by cases hn
 |m::l,st,b,i,h,n,hn=>by
  have h33:∀j:Nat,((33,(j:Int)):Int×Int)≠(0,0):=fun j e=>by simp at e
  have h31:∀j:Nat,((31,(j:Int)):Int×Int)≠(0,0):=fun j e=>by simp at e
  unfold rshapeG at h;cases hs:yA st b m with
  |none=>rw[hs] at h;exact absurd h (h33 _)
  |some x=>
   obtain⟨st',b'⟩:=x
   rw[hs] at h;simp only at h
   split at h
   ·exact absurd h (h31 _)
   ·rcases List.mem_cons.1 hn with rfl|hn
    ·omega
    ·exact rs_deep l _ _ _ h n hn
theorem rshape_deep{l:List Nd}(h:rshapeF l=(0,0)):∀n∈l,n.depth<=24:=by
 unfold rshapeF at h
 split at h
 ·simp at h
 ·exact rs_deep l _ _ _ h
theorem rs_zero:∀(l:List Nd) (st:List Opn) (b:Bool) (i:Nat),(rshapeG st b i l).1=0->rshapeG st b i l=(0,0)
 |[],st,b,i,h=>by
  unfold rshapeG at h⊢
  split
  ·rename_i h1;rw[if_pos h1] at h;simp at h
  ·rfl
 |m::l,st,b,i,h=>by
  unfold rshapeG at h⊢
  cases hs:yA st b m with
  |none=>rw[hs] at h;simp at h
  |some x=>
   obtain⟨st',b'⟩:=x
   rw[hs] at h;simp only at h⊢
   split
   ·rename_i h1;rw[if_pos h1] at h;simp at h
   ·rename_i h1;rw[if_neg h1] at h;exact rs_zero l _ _ _ h
theorem rshape_zero{l:List Nd}(h:(rshapeF l).1=0):rshapeF l=(0,0):=by
 unfold rshapeF at h⊢
 split
 ·rename_i h1;rw[if_pos h1] at h;simp at h
 ·rename_i h1;rw[if_neg h1] at h;exact rs_zero l _ _ _ h
theorem fr61(F:Nat->Value):frN 61 F={tmps:=(F 0::F 1::F 2::F 3::F 4::F 5::F 6::F 7::F 8::F 9::F 10::F 11::F 12::F 13::F 14::F 15::F 16::F 17::F 18::F 19::F 20::F 21::F 22::F 23::F 24::F 25::F 26::F 27::F 28::F 29::F 30::F 31::F 32::F 33::F 34::F 35::F 36::F 37::F 38::F 39::F 40::F 41::F 42::F 43::F 44::F 45::F 46::F 47::F 48::F 49::F 50::F 51::F 52::F 53::F 54::F 55::F 56::F 57::F 58::F 59::F 60::[]).toArray,defers:=[]}:=rfl
noncomputable def mm0:Code:=Tryz.f4.body.getD .skip
noncomputable def mm1:Code:=seqR (seqR mm0)
noncomputable def mmA:Code:=seqR mm1
noncomputable def mmB:Code:=seqR mmA
noncomputable def mmC:Code:=seqR mmB
noncomputable def mmD:Code:=seqR mmC
noncomputable def mm2:Code:=seqR mmD
noncomputable def mm3:Code:=seqR mm2
theorem ziQ:mm0= .seq (seqL mm0) (.seq (.seq (seqL (seqL (seqR mm0))) (seqR (seqL (seqR mm0)))) mm1):=rfl
theorem ziP:mm1= .seq (seqL mm1) mmA:=rfl
theorem ziN:mmA= .seq (seqL mmA) mmB:=rfl
theorem zdX:mmB= .seq (seqL mmB) mmC:=rfl
theorem ziM:mmC= .seq (seqL mmC) mmD:=rfl
theorem ziL:mmD= .seq (seqL mmD) mm2:=rfl
theorem ziO:mm2= .seq (seqL mm2) mm3:=rfl
theorem zhC:∃id,seqL (seqL (seqR mm0))= .region id (zw (seqL (seqL (seqR mm0)))) false:=⟨_,rfl⟩
theorem zhB:∃id,seqL mm2= .region id (zw (seqL mm2)) false:=⟨_,rfl⟩
structure MadeW (w:World) (te:TypeId) (pe:Value) (l:List Nd) (nb:Option Addr) (nc:Nat) (hb:Option Addr) (hn hc:Nat):Prop where
 vars:VarsOk w
 ce:w.cell? ⟨0,0,none⟩=some (.iface te pe)
 nodes:NodesAt w (.slice nb l.length nc) l
 how:hn≠0->∃g off,hb=some ⟨g,off,none⟩/\∀j,j<hn->∃x,w.cell? ⟨g,off+j,none⟩=some (.int .i64 x)
 fills:∀(k:Nat) f,zd[k]? =some f->w.cell? ⟨3,k,none⟩=some (.string ⟨f.toArray⟩)
 names:∀k:Nat,k<16->w.cell? ⟨4,k,none⟩=some (.string (opName k))
 tab:TabW w
theorem MadeW.kin{w w':World}{te:TypeId}{pe:Value}{l:List Nd}{nb:Option Addr}{nc:Nat}{hb:Option Addr}{hn hc:Nat}(h:MadeW w te pe l nb nc hb hn hc)(k:Kin w w'):MadeW w' te pe l nb nc hb hn hc:=
 ⟨h.vars.kin k,xz k h.ce,h.nodes.kin k,fun h0=>by
  obtain⟨g,off,e,hx⟩:=h.how h0
  refine⟨g,off,e,fun j hj=>?_⟩;obtain⟨x,hx⟩:=hx j hj
  exact⟨x,xz k hx⟩,fun j f hf=>xz k (h.fills j f hf),fun j hj=>xz k (h.names j hj),h.tab.kin k⟩
theorem zfY(w0 w:World)(K0:Kin w0 w)(s:ByteArray)(hs:8192<s.size)(q:Nat)(F:Nat->Value)(h9:F 9= .string s)(h11:F 11= .slice none 0 0)(h12:F 12= .iface 71 (.pointer (some ⟨q,0,none⟩))):mm3.wp Tryz.prog (bodyPost Tryz.prog Tryz.f4 (TrueP w0)) (frN 61 F) w:=by
 rw[fr61];simp only[h9,h11,h12];have hz:decide ((8192:Int)<(s.size:Int))=true:=decide_eq_true (by omega)
 conv=>enter [2];simp only[mm3,mm2,mmD,mmC,mmB,mmA,mm1,mm0,seqL,seqR,Tryz.f4,Option.getD_some]
 go_wp2_with fail;exact⟨rfl, .bool true,by simp[results,Tryz.f4],rfl,K0⟩
theorem zdZ(w0 w:World)(K0:Kin w0 w)(s:ByteArray)(hs:s.size<=8192)(l:List Nd)(hl:l.length<=9223372036854775807)(sl want:Value)(h1:NodesAt w sl l)(h2:NodesAt w want l)(F:Nat->Value)(h9:F 9= .string s)(h10:F 10=want)(h11:F 11=sl)(h12:F 12= .nilIface):mm3.wp Tryz.prog (bodyPost Tryz.prog Tryz.f4 (TrueP w0)) (frN 61 F) w:=by
 have HS:Hid (Calls Tryz.prog 16 #[sl,want] w fun e w'=>e= .returned (.bool true)/\Kin w w'):=Lib.hid (by
  have:=same_any l l hl hl sl want w h1 h2
  simpa using this)
 clear h1 h2;rw[fr61];simp only[h9,h10,h11,h12];have hz:decide ((8192:Int)<(s.size:Int))=false:=decide_eq_false (by omega)
 conv=>enter [2];simp only[mm3,mm2,mmD,mmC,mmB,mmA,mm1,mm0,seqL,seqR,Tryz.f4,Option.getD_some]
 go_wp2_with (go_at_call 16;with_reducible refine HS.out.mono ?_;rintro e w2 ⟨rfl,hk⟩;have HK:=Lib.hid hk;clear hk);exact⟨rfl, .bool true,by simp[results,Tryz.f4],rfl,K0.trans HK.out⟩
theorem ku.kin{te:TypeId}{pe:Value}{w w2 w3:World}{o:POut}{v:Value}(h:ku te pe w o v w2)(k:Kin w2 w3):ku te pe w o v w3:=by
 cases o with
 |tree l=>obtain⟨sl,e,ho⟩:=h;exact⟨sl,e,jH ho k⟩
 |fault a b=>obtain⟨q,e,hq,hc⟩:=h;exact⟨q,e,hq,(k.block q (lt_of_some hc)).trans hc⟩
theorem zd0(hP:TameProg Tryz.prog)(w0 w:World)(K0:Kin w0 w)(te:TypeId)(pe:Value)(hv:VarsOk w)(ce:w.cell? ⟨0,0,none⟩=some (.iface te pe))(ts ts':List Tr)(l:List Pc)(hW:W .p 0 ts l ts')(hz:szOf l<=62400)(hl:(flatTs ts 1).length<=300)(hd:∀n∈flatTs ts 1,n.depth<=24)(want:Value)(hN:NodesAt w want (flatTs ts' 1))(F:Nat->Value)(h9:F 9= .string (textOf l))(h10:F 10=want):wpB Tryz.prog mm2 (bodyPost Tryz.prog Tryz.f4 (TrueP w0)) (frN 61 F) w:=by
 have hsz:(textOf l).size<=62400:=by rw[j6];exact hz
 have HP:=Lib.hid (gt hP (textOf l) (by omega) te pe w hv ce _ (made_parses hW hl hd))
 have hlen:(flatTs ts' 1).length<=300:=by
  have:=congrArg List.length (kg hW 1)
  simp only[noAt,List.length_map] at this;omega
 have HN:=Lib.hid hN;have HL:=Lib.hid hlen;have HK:=Lib.hid K0;clear hv ce hN hlen K0 hW hz hl hd;generalize textOf l=s at*;generalize flatTs ts' 1=L at*;have HT:Hid (∀(F':Nat->Value) w2 sl er,F' 9= .string s->F' 10=want->F' 11=sl->F' 12=er->Kin w w2->ku te pe w (if 8192<s.size then .fault 21 8192 else .tree L) (.tuple #[sl,er]) w2->mm3.wp Tryz.prog (bodyPost Tryz.prog Tryz.f4 (TrueP w0)) (frN 61 F') w2):=Lib.hid (by
  intro F' w2 sl er k9 k10 k11 k12 K2 hres;by_cases hbig:8192<s.size
  ·rw[if_pos hbig] at hres;obtain⟨q,e,_,_⟩:=hres
   simp only[Value.tuple.injEq,Array.mk.injEq,List.cons.injEq,and_true] at e;obtain⟨rfl,rfl⟩:=e
   exact zfY w0 w2 (HK.out.trans K2) s hbig q F' k9 k11 k12
  ·rw[if_neg hbig] at hres;obtain⟨x,e,hown⟩:=hres
   simp only[Value.tuple.injEq,Array.mk.injEq,List.cons.injEq,and_true] at e;obtain⟨rfl,rfl⟩:=e
   exact zdZ w0 w2 (HK.out.trans K2) s (by omega) L (by have:=HL.out;omega) _ _ (.of_owns hown) (HN.out.kin K2) F' k9 k10 k11 k12)
 generalize bodyPost Tryz.prog Tryz.f4 (TrueP w0)=B at HT⊢;rw[ziO];generalize hX:mm3=X at HT⊢;clear hX HK HN HL;refine wpB_seq hP ?_;generalize hM:(Exit.then (wpB Tryz.prog X B) B)=M;have HM:Hid (∀a w',(∀T d,X.wp Tryz.prog B a (re w' T d))->M .normal a w'):=Lib.hid (fun a w' h=>by
  rw[<-hM];exact xu hP h)
 clear hM;obtain⟨id,hid⟩:=zhB
 rw[hid];clear hid;rw[fr61];simp only[h9,h10];conv=>enter [2];simp only[mm2,mmD,mmC,mmB,mmA,mm1,mm0,seqL,seqR,zw,Tryz.f4,Option.getD_some]
 refine jr hP (l:=[_,_,_,_,_,_,_]) ?_;refine listB_cut hP [_] [_,_,_,_,_,_] fun T d=>?_;generalize hN:yY Tryz.prog _ _ _=N;have HNN:=Lib.hid hN;clear hN;go_wp2;rw[<-HNN.out];refine uT ?_;refine kA hP Tryz.func14 (by kernel_rfl) (by kernel_rfl) rfl rfl (args:= #[.string s]) (by simp[Act.eval,qc]) (HP.out.mono ?_)
 rintro e w2 hpost;cases e with
 |outgrown=>exact hpost.elim
 |panicked _=>exact hpost.elim
 |returned v=>
  obtain⟨K2,hres⟩:=hpost
  have hv:∃sl er,v= .tuple #[sl,er]:=by
   revert hres;unfold ku;split
   ·rintro⟨x,rfl,_⟩;exact⟨_,_,rfl⟩
   ·rintro⟨q,rfl,_⟩;exact⟨_,_,rfl⟩
  obtain⟨sl,er,rfl⟩:=hv
  have HR:=Lib.hid hres;have HK2:=Lib.hid K2;clear HNN HP hres K2;show yY Tryz.prog _ _ _ _ w2;refine listB_lift hP fun T d=>?_;have HK3:Hid (Kin w (re w2 T d)):=Lib.hid (HK2.out.trans (yZ w2 T d));go_wp2;refine HM.out _ _ fun T' d'=>?_;rw[yf 61 _ (by rfl)]
  refine HT.out _ _ sl er rfl rfl rfl rfl (HK3.out.trans (yZ _ T' d')) ?_;exact HR.out.kin ((yZ w2 T d).trans (yZ _ T' d'))
section
variable {B:Exit->Act->World->Prop} {F:Nat->Value} {w:World}
theorem ziT(hP:TameProg Tryz.prog)(h5:F 5= .int .i64 0)(H:Hid (∀(F':Nat->Value) w2,F' 9=F 9->F' 10=F 10->Kin w w2->wpB Tryz.prog mm2 B (frN 61 F') w2)):wpB Tryz.prog mmD B (frN 61 F) w:=by
 rw[ziL];refine yR hP fun T d=>?_;have HK:=Lib.hid (yZ w T d);generalize re w T d=w1 at HK⊢;generalize hX:mm2=X at H⊢;clear hX;rw[fr61];simp only[h5];conv=>enter [2];simp only[mmD,mmC,mmB,mmA,mm1,mm0,seqL,seqR,Tryz.f4,Option.getD_some]
 go_wp2_with fail;rw[yf 61 _ (by rfl)]
 exact H.out _ w1 rfl rfl HK.out
theorem ziU(hP:TameProg Tryz.prog)(te:TypeId)(pe:Value)(l:List Nd)(nb:Option Addr)(nc:Nat)(hb:Option Addr)(hn hc:Nat)(hM:MadeW w te pe l nb nc hb hn hc)(hcap:hn<=hc)(hn2:hn<=9223372036854775807)(hl:l.length<=300)(hnum:∀n∈l,n.num<=9223372036854775807)(ts:List Tr)(hts:l=flatTs ts 1)(hroot:Root false ts)(h0:F 0= .slice nb l.length nc)(h1:F 1= .slice hb hn hc)(H:Hid (∀(F':Nat->Value) w2 m ts' want,F' 5=F 5->F' 9= .string (textOf m)->F' 10=want->W .p 0 ts m ts'->szOf m<=62400->NodesAt w2 want (flatTs ts' 1)->Kin w w2->wpB Tryz.prog mmD B (frN 61 F') w2)):wpB Tryz.prog mmC B (frN 61 F) w:=by
 rw[ziM];refine yR hP fun T d=>?_;have HK:=Lib.hid (yZ w T d);generalize re w T d=w1 at HK⊢;generalize hX:mmD=X at H⊢;clear hX;have hM1:=hM.kin HK.out;have HW:Hid (Calls Tryz.prog 20 #[.slice nb l.length nc, .slice hb hn hc] w1 fun e w'=>∃m ts' sl,W .p 0 ts m ts'/\szOf m<=62400/\e= .returned (.tuple #[.string (textOf m),sl])/\NodesAt w' sl (flatTs ts' 1)/\Kin w1 w'):=Lib.hid ((za0 w1 l nb nc hb hn hc hM1.nodes hM1.how hcap hn2 hl hM1.fills hM1.names hM1.tab hnum ts hts hroot).mono (by
  rintro e w' ⟨m,ts',sl,a1,a2,a3,a4,a5⟩;exact⟨m,ts',sl,a1,a2,a3, .of_owns a4,a5⟩))
 clear hM hM1 hnum hts hroot;rw[fr61];simp only[h0,h1];conv=>enter [2];simp only[mmC,mmB,mmA,mm1,mm0,seqL,seqR,Tryz.f4,Option.getD_some]
 go_wp2_with (go_at_call 20;with_reducible refine HW.out.mono ?_;rintro e w2 ⟨m,ts',sl,hw,hz,rfl,hn,hk⟩;have HWW:=Lib.hid hw;have HZ:=Lib.hid hz;have HN:=Lib.hid hn;have HK2:=Lib.hid hk;clear hw hz hn hk);rw[yf 61 _ (by rfl)]
 exact H.out _ w2 m ts' sl rfl rfl rfl HWW.out HZ.out HN.out (HK.out.trans HK2.out)
theorem ziV(hP:TameProg Tryz.prog)(h7:F 7= .int .i64 0)(H:Hid (∀(F':Nat->Value) w2,F' 0=F 0->F' 1=F 1->F' 5=F 5->Kin w w2->wpB Tryz.prog mmC B (frN 61 F') w2)):wpB Tryz.prog mmB B (frN 61 F) w:=by
 rw[zdX];refine yR hP fun T d=>?_;have HK:=Lib.hid (yZ w T d);generalize re w T d=w1 at HK⊢;generalize hX:mmC=X at H⊢;clear hX;rw[fr61];simp only[h7];conv=>enter [2];simp only[mmB,mmA,mm1,mm0,seqL,seqR,Tryz.f4,Option.getD_some]
 go_wp2_with fail;rw[yf 61 _ (by rfl)]
 exact H.out _ w1 rfl rfl rfl HK.out
theorem zhE(hP:TameProg Tryz.prog)(w0:World)(K0:Kin w0 w)(k:Int)(hk:k≠0)(h5:F 5= .int .i64 k)(h7:F 7= .int .i64 k):wpB Tryz.prog mmB (bodyPost Tryz.prog Tryz.f4 (TrueP w0)) (frN 61 F) w:=by
 rw[zdX];refine yR hP fun T d=>?_;have HK:=Lib.hid (K0.trans (yZ w T d));generalize re w T d=w1 at HK⊢;generalize hX:mmC=X;clear hX K0;have hd:(k !=0)=true:=by simp[hk]
 rw[fr61];simp only[h5,h7];conv=>enter [2];simp only[mmB,mmA,mm1,mm0,seqL,seqR,Tryz.f4,Option.getD_some]
 go_wp2_with fail;exact⟨rfl, .bool true,by simp[results,Tryz.f4],rfl,HK.out⟩
theorem ziW(hP:TameProg Tryz.prog)(l:List Nd)(v:Value)(hlim:∀n∈l,n.name.size<=140737488355328)(hlen:l.length<=9223372036854775807)(hN:NodesAt w v l)(h0:F 0=v)(H:Hid (∀(F':Nat->Value) w2,F' 0=F 0->F' 1=F 1->F' 5=F 5->F' 7= .int .i64 (rshapeF l).1->Kin w w2->wpB Tryz.prog mmB B (frN 61 F') w2)):wpB Tryz.prog mmA B (frN 61 F) w:=by
 rw[ziN];refine yR hP fun T d=>?_;have HK:=Lib.hid (yZ w T d);generalize re w T d=w1 at HK⊢;generalize hX:mmB=X at H⊢;clear hX;have HR:=Lib.hid (zcy l hlim hlen v w1 (hN.kin HK.out));rw[h0] at H;generalize (rshapeF l).1=k1 at*;generalize (rshapeF l).2=k2 at*;clear hlim hN hlen;rw[fr61];simp only[h0];conv=>enter [2];simp only[mmA,mm1,mm0,seqL,seqR,Tryz.f4,Option.getD_some]
 go_wp2_with (go_at_call 19;with_reducible refine HR.out.mono ?_;rintro e w2 ⟨rfl,hk⟩;have HK2:=Lib.hid hk;clear hk);rw[yf 61 _ (by rfl)]
 exact H.out _ w2 rfl rfl rfl rfl (HK.out.trans HK2.out)
theorem ziX(hP:TameProg Tryz.prog)(l:List Nd)(nb:Option Addr)(nc:Nat)(hnc:nb=none->nc=0)(hl:∀n∈l,n.name.size<=140737488355328/\ -9223372036854775808<=n.depth/\n.depth<=9223372036854775807)(hlen:l.length*56<=140737488355328)(hN:NodesAt w (.slice nb l.length nc) l)(h0:F 0= .slice nb l.length nc)(H:Hid (∀(F':Nat->Value) w2,F' 0=F 0->F' 1=F 1->F' 5= .int .i64 (shapeF l).1->Kin w w2->wpB Tryz.prog mmA B (frN 61 F') w2)):wpB Tryz.prog mm1 B (frN 61 F) w:=by
 rw[ziP];refine yR hP fun T d=>?_;have HK:=Lib.hid (yZ w T d);generalize re w T d=w1 at HK⊢;generalize hX:mmA=X at H⊢;clear hX;have hN1:=hN.kin HK.out;have HSH:Hid (∀v w',NodesAt w' v l->Calls Tryz.prog 18 #[v] w' fun e w2=>e= .returned (.tuple #[.int .i64 (shapeF l).1, .int .i64 (shapeF l).2])/\Kin w' w2):=Lib.hid (fun v w' h=>kZ l hl (by omega) v w' h)
 rw[h0] at H;generalize (shapeF l).1=k1 at*;generalize (shapeF l).2=k2 at*;obtain⟨ti,hi,hz0,hz1,hz2⟩:=info_parts zaw
 clear hl hN;rw[fr61];simp only[h0];conv=>enter [2];simp only[mm1,mm0,seqL,seqR,Tryz.f4,Option.getD_some]
 cases nb with
 |none=>
  obtain rfl:=hnc rfl;have hl0:l=[]:=by
   obtain⟨b',c',hv1,_,hne⟩:=hN1
   apply Classical.byContradiction;intro h;obtain⟨g,off,e,_⟩:=hne h
   simp only[Value.slice.injEq] at hv1;rw[e] at hv1;cases hv1.1
  subst hl0;simp only[List.length_nil] at hN1 H⊢;have HN0:Hid (∀(g:Nat) w',NodesAt w' (.slice (some ⟨g,0,none⟩) 0 0) ([]:List Nd)):=Lib.hid (fun g w'=>⟨_,0,rfl,Nat.le_refl _,fun h=>absurd rfl h⟩);go_wp2_with (go_at_call 18;with_reducible refine(HSH.out _ _ (HN0.out _ _)).mono ?_;rintro e w2 ⟨rfl,hk⟩;have HK2:=Lib.hid hk;clear hk);rw[yf 61 _ (by rfl)]
  exact H.out _ w2 rfl rfl rfl ((HK.out.alloc _).trans HK2.out)
 |some a=>
  have HC:Hid (∀(j:Nat) (u:Value),(ndCells l)[j]? =some u->(w1.alloc (.cells #[] 50)).cell? (a.add j)=some u):=Lib.hid (by
   obtain⟨b',c',hv1,hcap,hne⟩:=hN1.kin ((Kin.refl w1).alloc (.cells #[] 50))
   simp only[Value.slice.injEq] at hv1;obtain⟨rfl,_,_⟩:=hv1
   by_cases h0:l=[]
   ·subst h0;intro j u hu;simp[ndCells] at hu
   ·obtain⟨g,off,hb,hc⟩:=hne h0
    cases hb;exact flat_cells hc)
  clear hN1;go_wp2_with (first|(at_builtin;refine wpList_append_own _ rfl (.tmp 16) (.tmp 17) 25 rfl w1.heap.size 50 ti _ 6 56 Tryz.underlying25 hi hz0 hz1 hz2 rfl (by decide) (.slice (some ⟨w1.heap.size,0,none⟩) 0 0) 0 [] rfl (World.ownsRow_made w1 #[] 0 (Nat.le_refl _) (by decide) rfl) a l.length nc (ndCells l) rfl (ndCells_length l) HC.out (ndCells_one' l) (by unfold maxLen;omega) (by omega) (by simp) ?_;intro v1 w2 hown1 hgrow1 _;have HK1:Hid (Kin w1 w2):=Lib.hid (((Kin.refl w1).alloc _).grownK hgrow1 (fun kk hkk=>by cases hkk;exact Nat.le_refl _));rw[Nat.zero_add,List.nil_append] at hown1;have HN2:Hid (NodesAt w2 v1 l):=Lib.hid (.of_owns hown1);clear hown1 hgrow1)|(go_at_call 18;with_reducible refine(HSH.out _ _ HN2.out).mono ?_;rintro e w3 ⟨rfl,hk⟩;have HK2:=Lib.hid hk;clear hk));rw[yf 61 _ (by rfl)]
  exact H.out _ _ rfl rfl rfl (HK.out.trans (HK1.out.trans HK2.out))
end
theorem zd1(hP:TameProg Tryz.prog)(w0 w:World)(K0:Kin w0 w)(te:TypeId)(pe:Value)(l:List Nd)(nb:Option Addr)(nc:Nat)(hb:Option Addr)(hn hc:Nat)(hM:MadeW w te pe l nb nc hb hn hc)(hcap:hn<=hc)(hn2:hn<=9223372036854775807)(hnc:nb=none->nc=0)(hl:∀n∈l,n.name.size<=140737488355328/\ -9223372036854775808<=n.depth/\n.depth<=9223372036854775807/\n.num<=9223372036854775807)(hlen:l.length*56<=140737488355328)(F:Nat->Value)(h0:F 0= .slice nb l.length nc)(h1:F 1= .slice hb hn hc):wpB Tryz.prog mm1 (bodyPost Tryz.prog Tryz.f4 (TrueP w0)) (frN 61 F) w:=by
 refine ziX hP l nb nc hnc (fun n hn=>⟨(hl n hn).1,(hl n hn).2.1,(hl n hn).2.2.1⟩) hlen hM.nodes h0 (Lib.hid fun F1 w1 a0 a1 a5 K1=>?_);refine ziW hP l _ (fun n hn=>(hl n hn).1) (by omega) (hM.nodes.kin K1) (a0.trans h0) (Lib.hid fun F2 w2 b0 b1 b5 b7 K2=>?_)
 rw[zcu l (fun n hn=>⟨(hl n hn).2.1,(hl n hn).2.2.1⟩)] at a5;by_cases hz:(rshapeF l).1=0
 ·rw[hz] at a5 b7;have hs:=rshape_zero hz;obtain⟨hl300,ts,hts,hroot⟩:=forest_of hs
  have hdeep:=rshape_deep hs;refine ziV hP b7 (Lib.hid fun F3 w3 c0 c1 c5 K3=>?_);have K03:=K1.trans (K2.trans K3);refine ziU hP te pe l nb nc hb hn hc (hM.kin K03) hcap hn2 hl300 (fun n hn=>(hl n hn).2.2.2) ts hts hroot (by rw[c0,b0,a0,h0]) (by rw[c1,b1,a1,h1]) (Lib.hid fun F4 w4 m ts' want d5 d9 d10 hW hz4 hN4 K4=>?_)
  refine ziT hP (by rw[d5,c5,b5,a5]) (Lib.hid fun F5 w5 e9 e10 K5=>?_)
  have K05:=(K03.trans K4).trans K5;refine zd0 hP w0 w5 (K0.trans K05) te pe (hM.kin K05).vars (hM.kin K05).ce ts ts' m hW hz4 (by rw[<-hts];exact hl300) (by rw[<-hts];exact hdeep) want (hN4.kin K5) F5 (by rw[e9,d9]) (by rw[e10,d10])
 ·exact zhE hP w0 (K0.trans (K1.trans K2)) _ hz (by rw[b5,a5]) b7
theorem zfX(hP:TameProg Tryz.prog)(w:World)(te:TypeId)(pe:Value)(l:List Nd)(nb:Option Addr)(nc:Nat)(hb:Option Addr)(hn hc:Nat)(hM:MadeW w te pe l nb nc hb hn hc)(hcap:hn<=hc)(hn2:hn<=9223372036854775807)(hnc:nb=none->nc=0)(hl:∀n∈l,n.name.size<=140737488355328/\ -9223372036854775808<=n.depth/\n.depth<=9223372036854775807/\n.num<=9223372036854775807)(hlen:l.length*56<=140737488355328):CallsB Tryz.prog 4 #[.slice nb l.length nc, .slice hb hn hc] w (TrueP w):=by
 have hR:∀w',¬TrueP w .outgrown w':=fun w' h=>h;refine kR hP Tryz.func4 (c:=mm0) rfl hR ?_;rw[ziQ];have ha:({tmps:= #[Value.slice nb l.length nc, .slice hb hn hc]++Array.replicate (Tryz.f4.ntmps- #[Value.slice nb l.length nc, .slice hb hn hc].size) undef,defers:=[]}:Act)=frN 61 (fun n=>if n=0 then .slice nb l.length nc else if n=1 then .slice hb hn hc else undef):=by
  simp only[Tryz.ntmps4];rw[fr61];simp[Array.replicate_succ]
 rw[ha];clear ha;have HT:Hid (∀w1 (F:Nat->Value),Kin w w1->F 0= .slice nb l.length nc->F 1= .slice hb hn hc->wpB Tryz.prog mm1 (bodyPost Tryz.prog Tryz.f4 (TrueP w)) (frN 61 F) w1):=Lib.hid (fun w1 F K1 k0 k1=>zd1 hP w w1 K1 te pe l nb nc hb hn hc (hM.kin K1) hcap hn2 hnc hl hlen F k0 k1);have HF:=Lib.hid (fun w1 (K:Kin w w1)=>zek hP te pe w1 (hM.vars.kin K) (xz K hM.ce));clear hM;generalize hB:bodyPost Tryz.prog Tryz.f4 (TrueP w)=B at HT⊢;clear hB;generalize hX:mm1=X at HT⊢;clear hX;refine wpB_seq hP (xu hP fun T d=>?_);generalize hW:re w T d=w1;have HK1:Hid (Kin w w1):=Lib.hid (by rw[<-hW];exact yZ w T d)
 clear hW;generalize hY:(Code.seq (.seq (seqL (seqL (seqR mm0))) (seqR (seqL (seqR mm0)))) X)=Y;have HY:=Lib.hid hY;clear hY;rw[fr61];simp only[mm0,seqL,seqR,Tryz.f4,Option.getD_some];go_wp2;rw[<-HY.out];refine wpB_seq hP (wpB_seq hP ?_);obtain⟨id,hid⟩:=zhC
 rw[hid];clear hid HY;generalize hM:(Exit.then (wpB Tryz.prog (seqR (seqL (seqR mm0))) (Exit.then (wpB Tryz.prog X B) B)) (Exit.then (wpB Tryz.prog X B) B))=M;have HM:Hid (∀a w',(∀T d,(seqR (seqL (seqR mm0))).wp Tryz.prog (Exit.then (wpB Tryz.prog X B) B) a (re w' T d))->M .normal a w'):=Lib.hid (fun a w' h=>by
  rw[<-hM];exact xu hP h)
 clear hM;simp only[mm0,seqL,seqR,zw,Tryz.f4,Option.getD_some];refine jr hP (l:=[_,_]) ?_;refine kA hP Tryz.func13 (by kernel_rfl) (by kernel_rfl) rfl rfl (args:= #[]) (by simp[Act.eval,qc]) ((HF.out w1 HK1.out).mono ?_)
 rintro e w2 hpost;cases e with
 |outgrown=>exact hpost.elim
 |panicked _=>exact hpost.elim
 |returned v=>
  obtain⟨rfl,K2⟩:=hpost
  have HK2:=Lib.hid (HK1.out.trans K2);clear HF HK1 K2;show yY Tryz.prog _ _ _ _ w2;refine listB_lift hP fun T d=>?_;generalize hW:re w2 T d=w3;have HK3:Hid (Kin w w3):=Lib.hid (by rw[<-hW];exact HK2.out.trans (yZ w2 T d))
  clear hW HK2;go_wp2;refine HM.out _ _ fun T d=>?_;generalize hW:re w3 T d=w4;have HK4:Hid (Kin w w4):=Lib.hid (by rw[<-hW];exact HK3.out.trans (yZ w3 T d))
  clear hW HK3 HM;simp only[mm0,seqL,seqR,Tryz.f4,Option.getD_some];go_wp2;rw[yf 61 _ (by rfl)]
  exact HT.out w4 _ HK4.out rfl rfl
open Go.RowKit Go.ChangeShapes Go.WideShapes
section
variable {H:Type} {enc:TypeId×Value->H} {w:World} {base:Nat} {spare:Nat->Bool} {held:Bool}
theorem vE(b o j:Nat):(⟨b,o,none⟩:Addr).add j=⟨b,o+j,none⟩:=by
 unfold Addr.add
 split<;>simp_all
def zih(v:Value):Prop:=v= .slice none 0 0\/∃a n c,v= .slice (some a) n c
def qC{H:Type}(n:Nd):DataW H:= .agg [.lit (.int .i64 n.depth), .lit (.int .i64 n.kind), .lit (.string n.name.data.toList), .lit (.int .i64 n.num), .lit (.int .i64 n.op), .lit (.int .i64 n.at_)]
def NdIn(n:Nd):Prop:= -9223372036854775808<=n.depth/\n.depth<=9223372036854775807/\n.num<=9223372036854775807
theorem zdS{fuel:Nat}{cs:List Value}{x:DataW H×List MemPlace}(h:DataW.trod enc Tryz.prog w base spare held fuel 50 cs=some x):∃n:Nd,cs=n.cells/\x=(qC n,[])/\NdIn n:=by
 obtain⟨xs,m,_,hx,hl,hlen,hf⟩:=DataW.trod_struct Tryz.underlying50 h
 have hl6:cs.length=6:=hl.trans (by kernel_rfl)
 have k3:Tryz.prog.cellsOf 3=1:=by kernel_rfl
 have k47:Tryz.prog.cellsOf 47=1:=by kernel_rfl
 have k9:Tryz.prog.cellsOf 9=1:=by kernel_rfl
 have k2:Tryz.prog.cellsOf 2=1:=by kernel_rfl
 have k48:Tryz.prog.cellsOf 48=1:=by kernel_rfl
 match cs,hl6,xs,hlen with
 |[c0,c1,c2,c3,c4,c5],_,[y0,y1,y2,y3,y4,y5],_=>
  have f0:=hf 0 _ rfl;have f1:=hf 1 _ rfl;have f2:=hf 2 _ rfl;have f3:=hf 3 _ rfl;have f4:=hf 4 _ rfl;have f5:=hf 5 _ rfl;simp only[k3,k47,k9,k2,k48,List.drop_zero,List.drop_succ_cons,List.take_succ_cons,List.take_zero,List.getElem?_cons_zero,List.getElem?_cons_succ] at f0 f1 f2 f3 f4 f5;obtain⟨z0,e0,g0,w0⟩:=DataW.trod_int Tryz.underlying3 f0
  obtain⟨z1,e1,g1,_⟩:=DataW.trod_int Tryz.underlying47 f1
  obtain⟨z2,e2,g2,_⟩:=DataW.trod_string Tryz.underlying9 f2
  obtain⟨z3,e3,g3,w3⟩:=DataW.trod_int Tryz.underlying2 f3
  obtain⟨z4,e4,g4,_⟩:=DataW.trod_int Tryz.underlying48 f4
  obtain⟨z5,e5,g5,_⟩:=DataW.trod_int Tryz.underlying3 f5
  cases e0;cases e1;cases e2;cases e3;cases e4;cases e5
  subst g0 g1 g2 g3 g4 g5;refine⟨⟨z0,z1,z2,z3,z4,z5⟩,rfl,by rw[hx];rfl,?_⟩
  simp only[Lit.wf,Bool.and_eq_true,decide_eq_true_eq] at w0 w3;unfold NdIn;have a1:IntKind.i64.min= -9223372036854775808:=by decide
  have a2:IntKind.i64.max=9223372036854775807:=by decide
  rw[a1,a2] at w0;rw[a2] at w3;exact⟨w0.1,w0.2,w3.2⟩
theorem zcF{v:Value}{d:DataW H}{ps:List MemPlace}(hv:∃a n c,v= .slice a n c)(h:DataW.Trod enc Tryz.prog w base spare held 25 v d ps):
 ∃l:List Nd,NodesAt w v l/\zih v/\(∀n∈l,NdIn n)/\(d= .nil/\l=[]\/∃sp,d= .slice (l.map qC) sp):=by
 obtain⟨a0,n0,c0,rfl⟩:=hv
 obtain⟨fuel,hf⟩:=h
 have hcs:(Value.slice a0 n0 c0).cells.toList=[.slice a0 n0 c0]:=rfl;rw[hcs] at hf;have k50:Tryz.prog.cellsOf 50=6:=by kernel_rfl
 rcases Go.Deep.open_slice Tryz.underlying25 hf with⟨h1,h2⟩|⟨a,len,cap,m,n,D,Pl,h1,hb,hl,hm,hmm,hx,hi⟩
 ·cases h1;cases h2;exact⟨[],⟨none,0,rfl,Nat.le_refl _,fun h=>absurd rfl h⟩, .inl rfl,(fun n hn=>by cases hn), .inl ⟨rfl,rfl⟩⟩
 ·obtain⟨e0,e1,e2⟩:a0=some a/\n0=len/\c0=cap:=by
   have h1:=(List.cons.inj h1).1;simpa only [Value.slice.injEq] using h1
  have e1:=e1.symm;have e2:=e2.symm;subst e0;subst e1;subst e2;rw[k50] at hi hx;have hlm:len<=m:=by rw[hmm];split<;>omega
  have get:∀i,i<len->∃nd:Nd,D i=qC nd/\NdIn nd/\∀k c,nd.cells[k]? =some c->w.cell? ((a.add (i*6)).add k)=some c:=fun i hi'=>by
   obtain⟨cs',hc,ht⟩:=hi i (by omega)
   obtain⟨nd,rfl,hxx,hin⟩:=zdS ht
   obtain⟨_,hcl,hat⟩:=World.cells?_some hc
   simp only[Prod.mk.injEq] at hxx;refine⟨nd,hxx.1,hin,fun k c hk=>?_⟩;have hk6:=(List.getElem?_eq_some_iff.1 hk).1;have:nd.cells.length=6:=rfl
   exact(hat k (by omega)).trans hk
  have pick:∀i:Fin len,∃nd:Nd,D i=qC nd/\NdIn nd/\∀k c,nd.cells[k]? =some c->w.cell? ((a.add (i*6)).add k)=some c:=fun i=>get i i.isLt
  let f:Fin len->Nd:=fun i=>Classical.choose (pick i)
  have hf':=fun i:Fin len=>Classical.choose_spec (pick i);have hlen:(List.ofFn f).length=len:=List.length_ofFn;have hget:∀(j:Nat) (x:Nd),(List.ofFn f)[j]? =some x->∃hj:j<len,x=f ⟨j,hj⟩:=fun j x hx'=>by
   obtain⟨hj,e⟩:=List.getElem?_eq_some_iff.1 hx'
   rw[hlen] at hj;exact⟨hj,by rw[<-e,List.getElem_ofFn]⟩
  refine⟨List.ofFn f,⟨some a,cap,by rw[hlen],by rw[hlen];exact hl,fun hne=>?_⟩, .inr ⟨a,len,cap,rfl⟩,fun n hn=>?_, .inr ⟨List.map (fun j=>D (len+j)) (List.range (m-len)),?_⟩⟩
  ·have hpos:0<len:=by
    rcases Nat.eq_zero_or_pos len with h0|h0
    ·exact absurd (List.eq_nil_of_length_eq_zero (hlen.trans h0)) hne
    ·exact h0
   have h00:=(hf' ⟨0,hpos⟩).2.2 0 _ rfl;have hsp:a.spot=none:=by
    obtain⟨b,o,s⟩:=a
    cases s with
    |none=>rfl
    |some x=>
     exfalso;unfold World.cell? Addr.add at h00
     split at h00<;>simp_all
   obtain⟨b,o,s⟩:=a
   simp only at hsp
   subst hsp;refine⟨b,o,rfl,fun j x hx' k c hk=>?_⟩;obtain⟨hj,rfl⟩:=hget j x hx'
   have:=(hf' ⟨j,hj⟩).2.2 k c hk
   rw[vE,vE] at this;exact this
  ·obtain⟨j,hj⟩:=List.mem_iff_getElem?.1 hn
   obtain⟨hj',rfl⟩:=hget j n hj
   exact(hf' ⟨j,hj'⟩).2.1
  ·simp only[Prod.mk.injEq] at hx;have HL:List.map D (List.range len)=(List.ofFn f).map qC:=?hl
   ·rw[hx.1,HL]
   case hl=>
    apply List.ext_getElem?;intro j;by_cases hj:j<len
    ·rw[List.getElem?_map,List.getElem?_map,List.getElem?_range hj,List.getElem?_eq_getElem (by rw[hlen];exact hj),List.getElem_ofFn]
     simp only[Option.map_some];rw[(hf' ⟨j,hj⟩).1]
    ·rw[List.getElem?_eq_none (by simp;omega),List.getElem?_eq_none (by simp;omega)]
end
open Go.ChangeShapes Go.WideShapes Go.ChangeAt Go.RowKit Go.Conc Go.Bsd
theorem zjD:Kids Tryz.prog (· <Tryz.prog.types.size):=kids_rows (by kernel_rfl) (by kernel_rfl)
theorem zjK:∀t e,t<Tryz.prog.types.size->Tryz.prog.underlying t=some (.slice e)->0<Tryz.prog.cellsOf e:=slices_full_of Tryz.prog (by kernel_rfl)
section
variable {H:Type} {enc:TypeId×Value->H} {P:Program} {sp:Nat->Bool} {held:Bool}
theorem zcw{W W':World}(K:Kin W W'){p:MemPlace}(hp:p.block<W.heap.size):W.sameAt W' p:=by
 cases p with
 |cell b off=>exact World.cell?_of_block (K.block b hp)
 |map b=>exact K.block b hp
theorem vT{W W':World}(K:Kin W W'):∀{ts:List TypeId} {vs:List Value} {ds:List (DataW H)} {ps:List MemPlace},DataW.TrodAll enc P W 0 sp held ts vs ds ps->(∀p∈ps,p.block<W.heap.size)->DataW.TrodAll enc P W' 0 sp held ts vs ds ps
 |[],[],[],_,h,_=>h
 |_::_,_::_,_::_,_,⟨p,q,⟨n,hn⟩,h2,e⟩,hs=>⟨p,q,⟨n,DataW.trod_carry n _ _ _ hn (fun x hx=>zcw K (hs x (by rw[e];exact List.mem_append_left _ hx)))⟩,vT K h2 (fun x hx=>hs x (by rw[e];exact List.mem_append_right _ hx)),e⟩
theorem uC{e:TypeId}{ds:List (DataW H)}{d:DataW H}(hd:d∈ds){n:Nat}(hn:n∈d.weights P e):n∈DataW.weightsAll P e ds:=by
 induction ds with
 |nil=>cases hd
 |cons x ds ih=>
  simp only[DataW.weightsAll,List.mem_append];rcases List.mem_cons.1 hd with rfl|h
  ·exact .inl hn
  ·exact .inr (ih h)
theorem weights_nd(n:Nd):n.name.size∈(qC (H:=H) n).weights Tryz.prog 50:=by
 have e:n.name.size=n.name.data.toList.length:=Array.length_toList.symm;rw[e];simp[qC,DataW.weights,Tryz.underlying50,DataW.weightsEach]
end
theorem wZ{W:World}{n:String}{g:Nat}{cs:Array Value}{fuel m:Nat}{t e:TypeId}{ss:List (List UInt8)}{p:List MemPlace}(hg:Tryz.prog.globalNamed n=some g)(hv:W.var? Tryz.prog n=some cs)
 (ht:Tryz.prog.underlying t=some (.array m e)) (he:Tryz.prog.underlying e=some .string) (hce:Tryz.prog.cellsOf e=1) (hct:Tryz.prog.cellsOf t=m)
 (hd:DataW.trod (fun _=>()) Tryz.prog W 0 (fun _=>true) false fuel t cs.toList=some (.agg (ss.map fun s=> .lit (.string s)),p)):∀(k:Nat) s,ss[k]? =some s->W.cell? ⟨g,k,none⟩=some (.string ⟨s.toArray⟩):=by
 intro k s hk;obtain⟨xs,q,_,hx,hlen,hxl,hel⟩:=DataW.trod_array ht hd
 simp only[Prod.mk.injEq,DataW.agg.injEq] at hx;have hss:ss.length=m:=by
  have:=congrArg List.length hx.1
  simp only[List.length_map] at this;omega
 have hkm:k<m:=by have:=(List.getElem?_eq_some_iff.1 hk).1;omega
 have hE:=hel k hkm;rw[hce,Nat.mul_one,List.getElem?_eq_getElem (by omega)] at hE
 obtain⟨z,e1,e2,_⟩:=DataW.trod_string he hE
 have h0:((cs.toList.drop k).take 1)[0]? =some (.string z):=by rw[e1];rfl
 have h1:cs[k]? =some (.string z):=by simpa using h0
 have h2:=congrArg (fun l=>l[k]?) hx.1;simp only[List.getElem?_map,hk,Option.map_some,List.getElem?_eq_getElem (show k<xs.length by omega),e2,Option.some.injEq,DataW.lit.injEq,Lit.string.injEq] at h2
 have h3:=World.var?_cell hg hv k;rw[h1] at h3;rw[h3,h2]
theorem zcP{W:World}(h:laidMetH Tryz.prog Rows.parseMadeRow.laid W):(∀y,y=5\/y=6\/y=7->∃cs T fz,W.heap[y]? =some (.cells cs T fz)/\∀v∈cs,PlainV v)/\
 (∀y,y=8\/y=9->∃b o T fz,W.heap[y]? =some (.cells #[.iface 253 (.pointer (some ⟨b,o,none⟩))] T fz))/\(∃b,W.cell? ⟨0,0,none⟩=some (.iface 253 (.pointer (some b))))/\(∀(k:Nat) f,zd[k]? =some f->W.cell? ⟨3,k,none⟩=some (.string ⟨f.toArray⟩))/\(∀k:Nat,k<16->W.cell? ⟨4,k,none⟩=some (.string (opName k)))/\TabW W:=by
 rw[MakeChecks.laidMetH_plain _ _ _ (by kernel_rfl)] at h
 obtain⟨ps,⟨g1,t1,c1,f1,p1,q1,hg1,ht1,hv1,hd1,⟨g2,t2,c2,f2,p2,q2,hg2,ht2,hv2,hd2,⟨g3,t3,c3,f3,p3,q3,hg3,ht3,hv3,hd3,⟨g4,t4,c4,f4,p4,q4,hg4,ht4,hv4,hd4,⟨g5,t5,c5,f5,p5,q5,hg5,ht5,hv5,hd5,⟨g6,t6,c6,f6,p6,q6,hg6,ht6,hv6,hd6,⟨g7,t7,c7,f7,p7,q7,hg7,ht7,hv7,hd7,⟨g8,t8,c8,f8,p8,q8,hg8,ht8,hv8,hd8,hq8,e8⟩,e7⟩,e6⟩,e5⟩,e4⟩,e3⟩,e2⟩,e1⟩,hnd,hrows⟩:=h
 obtain rfl:=Option.some.inj ((show Tryz.prog.globalNamed "math/bits.deBruijn32tab" =some 6 by kernel_rfl).symm.trans hg1)
 obtain rfl:=Option.some.inj ((show Tryz.prog.globalNamed "math/bits.deBruijn64tab" =some 7 by kernel_rfl).symm.trans hg2)
 obtain rfl:=Option.some.inj ((show Tryz.prog.globalNamed "internal/strconv.uint64pow10" =some 5 by kernel_rfl).symm.trans hg3)
 obtain rfl:=Option.some.inj ((show Tryz.prog.globalNamed "strconv.ErrRange" =some 9 by kernel_rfl).symm.trans hg4)
 obtain rfl:=Option.some.inj ((show Tryz.prog.globalNamed "strconv.ErrSyntax" =some 8 by kernel_rfl).symm.trans hg5)
 obtain rfl:=Option.some.inj ((show Tryz.prog.globalNamed "winnow/api.ErrReject" =some 0 by kernel_rfl).symm.trans hg6)
 obtain rfl:=Option.some.inj ((show(Tryz.prog.globals[9]?).map (·.type)=some 27 by kernel_rfl).symm.trans ht4)
 obtain rfl:=Option.some.inj ((show(Tryz.prog.globals[8]?).map (·.type)=some 27 by kernel_rfl).symm.trans ht5)
 obtain rfl:=Option.some.inj ((show(Tryz.prog.globals[0]?).map (·.type)=some 27 by kernel_rfl).symm.trans ht6)
 have hq8':q8=[]:=hq8;subst hq8';obtain rfl:=Option.some.inj ((show Tryz.prog.globalNamed "winnow/winnowlaw03.fills" =some 3 by kernel_rfl).symm.trans hg7)
 obtain rfl:=Option.some.inj ((show Tryz.prog.globalNamed "winnow/winnowlaw03.names" =some 4 by kernel_rfl).symm.trans hg8)
 obtain rfl:=Option.some.inj ((show(Tryz.prog.globals[3]?).map (·.type)=some 198 by kernel_rfl).symm.trans ht7)
 obtain rfl:=Option.some.inj ((show(Tryz.prog.globals[4]?).map (·.type)=some 199 by kernel_rfl).symm.trans ht8)
 have ok:∀g,MemPlace.cell g 0∈ps->∀u v,W.cell? ⟨g,0,none⟩=some (.iface u v)->Value.okWide Tryz.prog W .any 0 u v:=fun g hm u v hc=>(hrows g 0 hm).2 u v hc;obtain rfl:=Option.some.inj ((show(Tryz.prog.globals[6]?).map (·.type)=some 245 by kernel_rfl).symm.trans ht1)
 obtain rfl:=Option.some.inj ((show(Tryz.prog.globals[7]?).map (·.type)=some 246 by kernel_rfl).symm.trans ht2)
 obtain rfl:=Option.some.inj ((show(Tryz.prog.globals[5]?).map (·.type)=some 231 by kernel_rfl).symm.trans ht3)
 have size1:∀{n:String} {g:Nat} {cs:Array Value} {fuel:Nat} {d:DataW Unit} {p:List MemPlace},DataW.trod (fun _=>()) Tryz.prog W 0 (fun _=>true) false fuel 27 cs.toList=some (.iface "*errors.errorString" d,p)->cs.size=1:=by
  intro n g cs fuel d p hd;obtain⟨_,u,v,e,_,_⟩:=iface_of_trod Tryz.underlying27 hd
  have:cs.toList.length=1:=by rw[e];rfl
  simpa using this
 have s4:=size1 (n:= "") (g:=0) hd4;have s5:=size1 (n:= "") (g:=0) hd5;have s6:=size1 (n:= "") (g:=0) hd6;have m9:MemPlace.cell 9 0∈ps:=by subst e1 e2 e3 e4;simp[MemPlace.row,s4]
 have m8:MemPlace.cell 8 0∈ps:=by subst e1 e2 e3 e4 e5;simp[MemPlace.row,s5]
 have m0:MemPlace.cell 0 0∈ps:=by subst e1 e2 e3 e4 e5 e6;simp[MemPlace.row,s6]
 obtain⟨a9,x9,k9,cs9,n9,_,r9⟩:=ut hg4 hv4 hd4 (ok 9 m9)
 obtain⟨a8,x8,k8,cs8,n8,_,r8⟩:=ut hg5 hv5 hd5 (ok 8 m8)
 obtain⟨a0,x0,k0,cs0,n0,w0,r0⟩:=ut hg6 hv6 hd6 (ok 0 m0)
 have hF:=wZ hg7 hv7 Tryz.underlying198 Tryz.underlying9 (by kernel_rfl) (by kernel_rfl) (ss:=zd) hd7
 have hN:=wZ hg8 hv8 Tryz.underlying199 Tryz.underlying9 (by kernel_rfl) (by kernel_rfl) (ss:=[[],[45],[33],[43],[45],[42],[47],[37],[60],[60,61],[62],[62,61],[61,61],[33,61],[38,38],[124,124]]) hd8
 refine⟨fun y hy=>?_,fun y hy=>?_,⟨a0,k0⟩,hF,fun k hk=>?_,?_⟩
 ·rcases hy with rfl|rfl|rfl
  ·exact arr_laid hg3 hv3 Tryz.underlying231 Tryz.underlying217 (by kernel_rfl) (by kernel_rfl) hd3
  ·exact arr_laid hg1 hv1 Tryz.underlying245 Tryz.underlying5 (by kernel_rfl) (by kernel_rfl) hd1
  ·exact arr_laid hg2 hv2 Tryz.underlying246 Tryz.underlying5 (by kernel_rfl) (by kernel_rfl) hd2
 ·rcases hy with rfl|rfl
  ·obtain⟨T,fz,hh⟩:=uh hg5 hv5
   rw[cs8,wd n8] at hh;exact⟨_,_,T,fz,hh⟩
  ·obtain⟨T,fz,hh⟩:=uh hg4 hv4
   rw[cs9,wd n9] at hh;exact⟨_,_,T,fz,hh⟩
 ·have h1:([[],[45],[33],[43],[45],[42],[47],[37],[60],[60,61],[62],[62,61],[61,61],[33,61],[38,38],[124,124]]:List (List UInt8))[k]? =some (([[],[45],[33],[43],[45],[42],[47],[37],[60],[60,61],[62],[62,61],[61,61],[33,61],[38,38],[124,124]]:List (List UInt8)).getD k []):=by
   rw[List.getD_eq_getElem?_getD,List.getElem?_eq_getElem (show k<_ by simpa using hk)]
   rfl
  rw[hN k _ h1];simp only[opName,Int.toNat_natCast]
 ·unfold TabW Lib.TabIs;rw[hv3]
  congr 1;apply Array.ext';exact Lib.cells_of_tab (zs:=Lib.pow10Tab) Tryz.underlying231 Tryz.underlying217 (by kernel_rfl) (by kernel_rfl) hd3
theorem zbo(os:Os)(started:os.Started)(H:Type)(enc:TypeId×Value->H):
 ReturnsInLeavingWide {} Tryz.checked os 4 .any (fun w args=>(Rows.parseMadeSpec.pre enc Tryz.prog Tryz.f4 Rows.parseMadeRow.domain false w args/\laidMetH Tryz.prog Rows.parseMadeRow.laid w)/\sizedMet enc Tryz.prog Tryz.f4 (OpenSpec.ofChange Rows.parseMadeSpec) false w args)
  (Rows.parseMadeSpec.post enc Tryz.prog Tryz.f4 false true false false):=by
 refine qi (C:=Tryz.checked) (X:=fun w _=>laidMetH Tryz.prog Rows.parseMadeRow.laid w) (fun _ _ _ hh h=>h.of_heap hh) own0 started Tryz.func4
  (ChangeSpec.witness_shaped (enc:=enc) (C:=Tryz.checked) (os:=os) (X:=fun w _=>laidMetH Tryz.prog Rows.parseMadeRow.laid w) false (World.laidAll Tryz.prog os Rows.parseMadeRow.laid) #[.slice none 0 0, .slice none 0 0] 8 (World.laidAll_os _ _ _)
   (World.shaped_of_ZipB (by kernel_rfl) (by kernel_rfl)) (by kernel_rfl) (by kernel_rfl) (by kernel_rfl)
   (by rw[MakeChecks.laidMetH_plain _ _ _ (by kernel_rfl)];exact laidMet_laidAll _ (by kernel_rfl) (by kernel_rfl))) ?_
 intro W base args ds gs before hval0 hW _ hsz0 hL _;have hsz:(DataW.weightsEach Tryz.prog (Tryz.f4.params.toList++Rows.parseMadeSpec.plain.varTypes Tryz.prog) (ds++gs)).all (· <=reachBytes)=true:=hsz0;have hval:∀(j:Nat) t v,Tryz.f4.params[j]? =some t->args[j]? =some v->Value.okWide Tryz.prog W .any base t v:=hval0;have hW':=hW;have hlt:∀p∈before,p.block<W.heap.size:=DataW.Whole.lt hW;obtain⟨p,q,hA0,hV,rfl,_,_⟩:=hW
 have hA:DataW.TrodAll enc Tryz.prog W 0 (fun _=>true) true Tryz.f4.params.toList args.toList ds p:=hA0;have hAll:=hA;rw[Tryz.params4] at hA hval hsz hAll;obtain⟨v0,v1,d0,d1,p0,p1,rfl,rfl,rfl,h0,h1⟩:=trodAll_two hA
 obtain⟨rfl,rfl⟩:=trodVars_none hV
 simp only[List.append_nil] at hlt;obtain⟨l,hN,hs,hin,hd0⟩:=zcF (okWide_slice Tryz.underlying25 (hval 0 25 v0 rfl rfl)) h0
 obtain⟨b0,n0,c0,rfl⟩:=okWide_slice Tryz.underlying25 (hval 0 25 v0 rfl rfl)
 obtain⟨hb,hn,hc,rfl⟩:=okWide_slice Tryz.underlying36 (hval 1 36 v1 rfl rfl)
 obtain⟨fuel1,h1'⟩:=h1
 have hints:=open_ints Tryz.underlying36 Tryz.underlying3 (by kernel_rfl) h1'
 have hlen0:n0=l.length:=by
  obtain⟨b',c',e,_,_⟩:=hN
  simp only[Value.slice.injEq] at e;exact e.2.1
 subst hlen0;have hnc:b0=none->c0=0:=by
  rintro rfl;rcases hs with e|⟨a,n,c,e⟩
  ·simp only[Value.slice.injEq] at e;exact e.2.2
  ·simp at e
 have hhow:hn<=hc/\hn<=9223372036854775807/\(hn≠0->∃g off,hb=some ⟨g,off,none⟩/\∀j,j<hn->∃x,W.cell? ⟨g,off+j,none⟩=some (.int .i64 x)):=by
  rcases hints with⟨e,_⟩|⟨a,len,cap,zs,e,_,hle,hmx,hz,_,hcell,_⟩
  ·have e:=(List.cons.inj e).1;simp only[Value.slice.injEq] at e;obtain⟨rfl,rfl,rfl⟩:=e
   exact⟨Nat.le_refl _,by decide,fun h=>absurd rfl h⟩
  ·have e:=(List.cons.inj e).1;simp only[Value.slice.injEq] at e;obtain⟨rfl,rfl,rfl⟩:=e
   have hzl:hn<=zs.length:=by rw[hz];split<;>omega
   refine⟨hle,by unfold maxLen at hmx;omega,fun h0=>?_⟩
   have hc0:=hcell 0 (by omega)
   have hsp:a.spot=none:=by
    obtain⟨b,o,s⟩:=a
    cases s with
    |none=>rfl
    |some x=>
     exfalso;unfold World.cell? Addr.add at hc0
     split at hc0<;>simp_all
   obtain⟨b,o,s⟩:=a
   simp only at hsp
   subst hsp;refine⟨b,o,rfl,fun j hj=>⟨zs.getD j 0,?_⟩⟩;have:=hcell j (by omega)
   rw[vE] at this;exact this
 have hlen:l.length*56<=140737488355328:=by
  rcases hd0 with⟨_,rfl⟩|⟨sp,rfl⟩
  ·decide
  ·have hb:(l.map (qC (H:=H))).length+sp.length=l.length+sp.length:=by rw[List.length_map]
   have:=sized_slice hsz (j:=0) (t:=25) (e:=50) rfl rfl Tryz.underlying25
   rw[hb,show Tryz.prog.bytesOf 50=56 by kernel_rfl] at this
   have h2:reachBytes=140737488351232:=by decide
   rw[h2] at this;have:l.length*56<=(l.length+sp.length)*56:=Nat.mul_le_mul_right _ (by omega)
   omega
 have hl:∀n∈l,n.name.size<=140737488355328/\ -9223372036854775808<=n.depth/\n.depth<=9223372036854775807/\n.num<=9223372036854775807:=fun x hx=>by
  refine⟨?_,hin x hx⟩;rcases hd0 with⟨_,rfl⟩|⟨sp,rfl⟩
  ·cases hx
  ·have hw:x.name.size∈(DataW.slice (l.map (qC (H:=H))) sp).weights Tryz.prog 25:=by
    simp only[DataW.weights,Tryz.underlying25,List.mem_cons,List.mem_append];exact .inr (.inl (uC (List.mem_map.2 ⟨x,hx,rfl⟩) (weights_nd x)))
   have:=of_decide_eq_true (List.all_eq_true.1 hsz x.name.size (DataW.weights_mem_each (j:=0) (t:=25) rfl rfl _ hw))
   exact Nat.le_trans this (by unfold reachBytes;decide)
 obtain⟨l1,l2,⟨b,hr⟩,hF,hNm,hTab⟩:=zcP hL
 have hsize:Tryz.prog.globals.size<=W.heap.size:=by
  obtain⟨_,_,_,_,h9⟩:=l2 9 (.inr rfl)
  have hlt:9<W.heap.size:=(Array.getElem?_eq_some_iff.1 h9).1;have e:Tryz.prog.globals.size=10:=by kernel_rfl
  omega
 have hcall:=zfX Tryz.tame W 253 _ l b0 c0 hb hn hc ⟨⟨l1,l2,hsize⟩,hr,hN,hhow.2.2,hF,hNm,hTab⟩ hhow.1 hhow.2.1 hnc hl hlen;have hcall2:Bsd.CallsB Tryz.prog 4 #[.slice b0 l.length c0, .slice hb hn hc] W (fun| .returned v,w'=>v= .bool true/\Kin W w'|_,_=>False):=hcall.mono fun e w' h=>by
  cases e with
  |returned v=>exact h
  |panicked c=>exact h
  |outgrown=>exact h
 obtain⟨M,last,o,w',t',r1,r2,r3,r4⟩:=Bsd.callsB_run Tryz.tame Tryz.func4 (Post:=fun v w'=>v= .bool true/\Kin W w') rfl (by kernel_rfl) rfl (fun v w T d h=>⟨h.1,h.2.trans (yZ w T d)⟩) hcall2
 refine⟨M,last,o,w',t',r1,r2,r3,r4.mono fun v hF=>?_⟩;obtain⟨rfl,hk⟩:=hF
 have hback:=vT hk (DataW.TrodAll.respare (spare':=fun b=>decide (b<W.heap.size)) zjD zjK (by decide+kernel) hAll (fun p hp=>decide_eq_true (hlt p hp))) hlt
 exact⟨_,_,_,[],_,[],hW',trodAll_mk1 (shut_bool Tryz.underlying4 true),by rw[Tryz.params4];exact hback,rfl,zbq hk _,fun h=>by cases h⟩
theorem made_row:Rows.ParseMadeSaid:=
 OpenClaim.holds_of_wide_leaving 4 Tryz.f4 rfl rfl rfl rfl rfl rfl rfl ⟨rfl,rfl,rfl,rfl,rfl⟩ rfl rfl rfl rfl rfl (by kernel_rfl) Tryz.func4 (by kernel_rfl)
  (of_decide_eq_true (by kernel_rfl)) (by unfold Func.isWrapper;first|(rw[if_pos (by decide+kernel)];kernel_rfl)|(rw[if_neg (by decide+kernel)];exact⟨rfl,rfl⟩))
  (fun os started H enc _=>zbo os started H enc)
theorem made_card:Rows.ParseMadeCardSaid:=
 uX .later [.data, .data, .data, .sentinel, .sentinel, .sentinel, .data, .data] true (true,"074e5f031ab4408176da533a2cefdc3afa561c3d929ccf1498e46e2ed11c108f") true
  made_row (by kernel_rfl) parseMade_row_tie rfl ⟨rfl,rfl⟩ (by kernel_rfl) rfl
  (fun f fn hf hfn=>by
   obtain rfl:f=4:=Option.some.inj ((show Tryz.prog.funcNamed "winnow/winnowlaw03.ParseMade" =some 4 by kernel_rfl).symm.trans hf) |>.symm
   obtain rfl:fn=Tryz.f4:=(Option.some.inj (Tryz.func4.symm.trans hfn)).symm;exact⟨by kernel_rfl,fun j t ht=>by
    rw[Tryz.params4] at ht;have hm:t∈[25,36]:=by simpa using Array.mem_of_getElem? ht
    have hall:([25,36].all fun u=>!Tryz.prog.wantsStandIn u)=true:=by kernel_rfl
    exact(show Tryz.prog.wantsStandIn t=false by simpa using List.all_eq_true.1 hall t hm)⟩)
  (by kernel_rfl)
end Go.Proofs.YtonmcakdofbjiaaGreatDoor
