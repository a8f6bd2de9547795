/-
  winnowlaw03.ParseParses answers true at every list of texts, and leaves it as it was: the row, and the tied card. Conditions: those of the given statement.
-/
import Derived.Test.YtonmcakdofbjiaaGreatDoorZ23
import Derived.Test.YtonmcakdofbjiaaGreatDoorZ14
import Derived.Test.YtonmcakdofbjiaaGreatDoorZ15
import Derived.Test.YtonmcakdofbjiaaGreatDoorTie
import Derived.Test.YtonmcakdofbjiaaGreatDoorCards
import Derived.Deep.Strs
import Derived.ReadAgain
set_option linter.all false
set_option maxRecDepth 100000
set_option maxHeartbeats 8000000
namespace Go.Proofs.YtonmcakdofbjiaaGreatDoor
open Go.RowKit Go.Bsd
def ParI(w:World)(ts:List ByteArray)(bo:Option Addr)(cap:Nat)(a:Act)(w':World):Prop:=∃(i:Nat) (t1 t4 t5 t6 t7 t8 t9 t10 t11 t12 t13 t14 t15 t16 t17 t18 t19 t20 t21 t22 t23 t24 t25 t26 t27 t28 t29 t30 t31 t32 t33 t34 t35 t36 t37 t38 t39 t40 t41 t42 t43 t44 t45 t46 t47 t48 t49 t50 t51 t52 t53 t54 t55 t56 t57 t58 t59 t60:Value),i<=ts.length/\Kin w w'/\a={tmps:=(.slice bo ts.length cap::t1:: .bool false:: .int .i64 i::t4::t5::t6::t7::t8::t9::t10::t11::t12::t13::t14::t15::t16::t17::t18::t19::t20::t21::t22::t23::t24::t25::t26::t27::t28::t29::t30::t31::t32::t33::t34::t35::t36::t37::t38::t39::t40::t41::t42::t43::t44::t45::t46::t47::t48::t49::t50::t51::t52::t53::t54::t55::t56::t57::t58::t59::t60::[]).toArray,defers:=[]}
def parM(ts:List ByteArray)(a:Act)(_:World):Nat:=ts.length-(match a.tmps.getD 3 undef with| .int _ i=>i.toNat|_=>0)
theorem parses_round(hP:TameProg Tryz.prog)(w w1:World)(K1:Kin w w1)(hv:VarsOk w1)(b:Addr)(hr:w1.cell? ⟨0,0,none⟩=some (.iface 253 (.pointer (some b))))(hg:xh w1)(ts:List ByteArray)(g off cap:Nat)(hcap:ts.length<=cap)(i:Nat)(s:ByteArray)(hi:i<ts.length)(hn:ts.length<=9223372036854775807)(hs:s.size<=9223372036854775807)(hc:w1.cell? ⟨g,off+i,none⟩=some (.string s))(Q:Exit->Act->World->Prop)
 (HQ:Hid (∀(t1 t4 t5 t6 t7 t8 t9 t10 t11 t12 t13 t14 t15 t16 t17 t18 t19 t20 t21 t22 t23 t24 t25 t26 t27 t28 t29 t30 t31 t32 t33 t34 t35 t36 t37 t38 t39 t40 t41 t42 t43 t44 t45 t46 t47 t48 t49 t50 t51 t52 t53 t54 t55 t56 t57 t58 t59 t60:Value) w2,Kin w w2->Q .normal {tmps:=(.slice (some ⟨g,off,none⟩) ts.length cap::t1:: .bool false:: .int .i64 i::t4::t5::t6::t7::t8::t9::t10::t11::t12::t13::t14::t15::t16::t17::t18::t19::t20::t21::t22::t23::t24::t25::t26::t27::t28::t29::t30::t31::t32::t33::t34::t35::t36::t37::t38::t39::t40::t41::t42::t43::t44::t45::t46::t47::t48::t49::t50::t51::t52::t53::t54::t55::t56::t57::t58::t59::t60::[]).toArray,defers:=[]} w2)) (t1 t4 t5 t6 t7 t8 t9 t10 t11 t12 t13 t14 t15 t16 t17 t18 t19 t20 t21 t22 t23 t24 t25 t26 t27 t28 t29 t30 t31 t32 t33 t34 t35 t36 t37 t38 t39 t40 t41 t42 t43 t44 t45 t46 t47 t48 t49 t50 t51 t52 t53 t54 t55 t56 t57 t58 t59 t60:Value):
 wpB Tryz.prog (.seq (seqL (yo (seqL (seqR pp3)))) pp4) Q {tmps:=(.slice (some ⟨g,off,none⟩) ts.length cap::t1:: .bool false:: .int .i64 i::t4::t5::t6::t7::t8::t9::t10::t11::t12::t13::t14::t15::t16::t17::t18::t19::t20::t21::t22::t23::t24::t25::t26::t27::t28::t29::t30::t31::t32::t33::t34::t35::t36::t37::t38::t39::t40::t41::t42::t43::t44::t45::t46::t47::t48::t49::t50::t51::t52::t53::t54::t55::t56::t57::t58::t59::t60::[]).toArray,defers:=[]} w1:=by
 obtain⟨o,ho⟩:=vB s
 have HP:=Lib.hid (kg hP s hs 253 _ w1 hv hr o ho)
 have HR:=Lib.hid hr
 have HG:=Lib.hid hg
 have HK1:=Lib.hid K1
 have HO:=Lib.hid ho
 have HC:=Lib.hid hc
 have HI:=Lib.hid hi
 have hlt:decide ((i:Int)<(ts.length:Int))=true:=decide_eq_true (by omega)
 clear hv hr hg K1 ho
 refine wpB_seq hP ?_
 obtain⟨id,hid⟩:=zih
 rw[hid]
 clear hid
 generalize hX:pp4=X
 have HX:=Lib.hid hX
 clear hX
 simp only[pp3,pp2,pp0,seqL,seqR,jm,yo,zm,Tryz.f6,Option.getD_some]
 refine xJ hP (l:=[_,_,_,_,_,_,_,_,_,_]) ?_
 refine listB_cut hP [_,_,_,_] [_,_,_,_,_,_] fun T d=>?_
 generalize hN:yx Tryz.prog _ _ _=N
 have HN:=Lib.hid hN
 clear hN
 have hc':(re w1 T d).cell? ⟨g,off+i,none⟩=some (.string s):=hc
 clear hc
 go_wp2
 rw[<-HN.out]
 refine jH ?_
 refine qB hP Tryz.func14 (by kernel_rfl) (by kernel_rfl) rfl rfl (args:= #[.string s]) (by simp[Act.eval,yS]) (HP.out.mono ?_)
 rintro e w2 hpost
 cases e with
 |outgrown=>exact hpost.elim
 |panicked _=>exact hpost.elim
 |returned v=>
  have hE2:∃sl er,v= .tuple #[sl,er]/\Kin w1 w2/\xF b w2 sl er o:=by
   obtain⟨kin,hres⟩:=hpost
   cases o with
   |tree l=>
    obtain⟨sl,rfl,hown⟩:=hres
    exact⟨_,_,rfl,kin,rfl, .of_owns hown,parses_small HO.out⟩
   |fault k p=>
    obtain⟨q,rfl,hq,hc⟩:=hres
    exact⟨_,_,rfl,kin,rfl,q,rfl,hc⟩
  obtain⟨sl,er,rfl,kin,hpo⟩:=hE2
  clear hpost HN HP
  have HT:Hid (∀(t1 t6 t7 t8 t9 t10 t11 t12 t13 t14 t15 t16 t17 t18 t19 t20 t21 t22 t23 t24 t25 t26 t27 t28 t29 t30 t31 t32 t33 t34 t35 t36 t37 t38 t39 t40 t41 t42 t43 t44 t45 t46 t47 t48 t49 t50 t51 t52 t53 t54 t55 t56 t57 t58 t59 t60:Value),wpB Tryz.prog X Q {tmps:=(.slice (some ⟨g,off,none⟩) ts.length cap::t1:: .bool false:: .int .i64 i::sl::er::t6::t7::t8::t9::t10::t11::t12::t13::t14::t15::t16::t17::t18::t19::t20::t21::t22::t23::t24::t25::t26::t27::t28::t29::t30::t31::t32::t33::t34::t35::t36::t37::t38::t39::t40::t41::t42::t43::t44::t45::t46::t47::t48::t49::t50::t51::t52::t53::t54::t55::t56::t57::t58::t59::t60::[]).toArray,defers:=[]} w2):=Lib.hid (by
   intro t1 t6 t7 t8 t9 t10 t11 t12 t13 t14 t15 t16 t17 t18 t19 t20 t21 t22 t23 t24 t25 t26 t27 t28 t29 t30 t31 t32 t33 t34 t35 t36 t37 t38 t39 t40 t41 t42 t43 t44 t45 t46 t47 t48 t49 t50 t51 t52 t53 t54 t55 t56 t57 t58 t59 t60
   rw[<-HX.out]
   refine wpB_lift hP fun T d=>?_
   exact zb1 w (re w2 T d) ((HK1.out.trans kin).trans (zS w2 T d)) b ((kin.cell (World.block_lt_of_cell? w1 _ HR.out)).trans HR.out) ((HG.out.kin kin).kin (zS w2 T d)) ts g off cap hcap i s HI.out hn hs o HO.out ((kin.cell (World.block_lt_of_cell? w1 _ HC.out)).trans HC.out) sl er (hpo.kin (zS w2 T d)) Q HQ t1 t6 t7 t8 t9 t10 t11 t12 t13 t14 t15 t16 t17 t18 t19 t20 t21 t22 t23 t24 t25 t26 t27 t28 t29 t30 t31 t32 t33 t34 t35 t36 t37 t38 t39 t40 t41 t42 t43 t44 t45 t46 t47 t48 t49 t50 t51 t52 t53 t54 t55 t56 t57 t58 t59 t60)
  clear HX HQ HO HC HR HG HK1 hpo kin
  show yx Tryz.prog _ _ _ _ w2
  generalize hM:Exit.then (wpB Tryz.prog X Q) Q=M
  have HM:=Lib.hid hM
  clear hM
  refine listB_lift hP fun T d=>?_
  go_wp2
  rw[<-HM.out]
  exact HT.out _ _ _ _ _ _ _ _ _ _ _ _ _ _ _ _ _ _ _ _ _ _ _ _ _ _ _ _ _ _ _ _ _ _ _ _ _ _ _ _ _ _ _ _ _ _ _ _ _ _ _ _ _ _ _ _
theorem zb2(hP:TameProg Tryz.prog)(w w1:World)(K1:Kin w w1)(hv:VarsOk w)(b:Addr)(hr:w.cell? ⟨0,0,none⟩=some (.iface 253 (.pointer (some b))))(hg:xh w)(ts:List ByteArray)(bo:Option Addr)(cap:Nat)(hcap:ts.length<=cap)(hn:ts.length<=9223372036854775807)(hsz:∀t∈ts,t.size<=9223372036854775807)
 (hst:ts≠[]->∃g off,bo=some ⟨g,off,none⟩/\∀(j:Nat) t,ts[j]? =some t->w.cell? ⟨g,off+j,none⟩=some (.string t)) (t1 t3 t4 t5 t6 t7 t8 t9 t10 t11 t12 t13 t14 t15 t16 t17 t18 t19 t20 t21 t22 t23 t24 t25 t26 t27 t28 t29 t30 t31 t32 t33 t34 t35 t36 t37 t38 t39 t40 t41 t42 t43 t44 t45 t46 t47 t48 t49 t50 t51 t52 t53 t54 t55 t56 t57 t58 t59 t60:Value):
 wpB Tryz.prog pp2 (bodyPost Tryz.prog Tryz.f6 (TrueP w)) {tmps:=(.slice bo ts.length cap::t1:: .bool false::t3::t4::t5::t6::t7::t8::t9::t10::t11::t12::t13::t14::t15::t16::t17::t18::t19::t20::t21::t22::t23::t24::t25::t26::t27::t28::t29::t30::t31::t32::t33::t34::t35::t36::t37::t38::t39::t40::t41::t42::t43::t44::t45::t46::t47::t48::t49::t50::t51::t52::t53::t54::t55::t56::t57::t58::t59::t60::[]).toArray,defers:=[]} w1:=by
 have HK1:=Lib.hid K1
 have HST:=Lib.hid hst
 have HSZ:=Lib.hid hsz
 clear hst hsz K1
 generalize hB:bodyPost Tryz.prog Tryz.f6 (TrueP w)=B
 have HB:=Lib.hid hB
 clear hB
 rw[zje]
 refine wpB_seq hP (vo hP fun T d=>?_)
 have HEND:Hid (∀(t1 t4 t5 t6 t7 t8 t9 t10 t11 t12 t13 t14 t15 t16 t17 t18 t19 t20 t21 t22 t23 t24 t25 t26 t27 t28 t29 t30 t31 t32 t33 t34 t35 t36 t37 t38 t39 t40 t41 t42 t43 t44 t45 t46 t47 t48 t49 t50 t51 t52 t53 t54 t55 t56 t57 t58 t59 t60:Value) (i:Nat) w2,Kin w w2->wpB Tryz.prog (seqR pp2) B {tmps:=(.slice bo ts.length cap::t1:: .bool false:: .int .i64 i::t4::t5::t6::t7::t8::t9::t10::t11::t12::t13::t14::t15::t16::t17::t18::t19::t20::t21::t22::t23::t24::t25::t26::t27::t28::t29::t30::t31::t32::t33::t34::t35::t36::t37::t38::t39::t40::t41::t42::t43::t44::t45::t46::t47::t48::t49::t50::t51::t52::t53::t54::t55::t56::t57::t58::t59::t60::[]).toArray,defers:=[]} w2):=Lib.hid (by
  intro t1 t4 t5 t6 t7 t8 t9 t10 t11 t12 t13 t14 t15 t16 t17 t18 t19 t20 t21 t22 t23 t24 t25 t26 t27 t28 t29 t30 t31 t32 t33 t34 t35 t36 t37 t38 t39 t40 t41 t42 t43 t44 t45 t46 t47 t48 t49 t50 t51 t52 t53 t54 t55 t56 t57 t58 t59 t60 i w2 K2
  refine wpB_lift hP fun T d=>?_
  rw[<-HB.out]
  simp only[pp2,pp0,seqR,Tryz.f6,Option.getD_some]
  go_wp2
  exact⟨rfl, .bool true,by simp[results,Tryz.f6],rfl,K2.trans (zS w2 T d)⟩)
 generalize hE:seqR pp2=E at HEND⊢
 clear hE
 generalize hY:wpB Tryz.prog (.block 0 (.loop pp3)) _=Y
 have HY:=Lib.hid hY
 clear hY
 simp only[pp2,pp0,seqL,seqR,Tryz.f6,Option.getD_some]
 go_wp2
 rw[<-HY.out]
 refine zaG (wpB_block hP ?_)
 refine zge hP (ParI w ts bo cap) (parM ts) ⟨0,_,_,_,_,_,_,_,_,_,_,_,_,_,_,_,_,_,_,_,_,_,_,_,_,_,_,_,_,_,_,_,_,_,_,_,_,_,_,_,_,_,_,_,_,_,_,_,_,_,_,_,_,_,_,_,_,_,_,Nat.zero_le _,HK1.out,rfl⟩ ?_
 rintro a w2 ⟨i,t1,t4,t5,t6,t7,t8,t9,t10,t11,t12,t13,t14,t15,t16,t17,t18,t19,t20,t21,t22,t23,t24,t25,t26,t27,t28,t29,t30,t31,t32,t33,t34,t35,t36,t37,t38,t39,t40,t41,t42,t43,t44,t45,t46,t47,t48,t49,t50,t51,t52,t53,t54,t55,t56,t57,t58,t59,t60,hi,hK,rfl⟩
 have HK:=Lib.hid hK
 clear hK HY
 rw[zjd]
 have HQN:Hid (∀a' w',ParI w ts bo cap a' w'->parM ts a' w'<ts.length-i->(Exit.then (fun a' w'=>ParI w ts bo cap a' w'/\parM ts a' w'<parM ts {tmps:=(.slice bo ts.length cap::t1:: .bool false:: .int .i64 i::t4::t5::t6::t7::t8::t9::t10::t11::t12::t13::t14::t15::t16::t17::t18::t19::t20::t21::t22::t23::t24::t25::t26::t27::t28::t29::t30::t31::t32::t33::t34::t35::t36::t37::t38::t39::t40::t41::t42::t43::t44::t45::t46::t47::t48::t49::t50::t51::t52::t53::t54::t55::t56::t57::t58::t59::t60::[]).toArray,defers:=[]} w2) (Exit.inBlock 0 (Exit.then (wpB Tryz.prog E B) B))) .normal a' w'):=Lib.hid (fun a' w' h1 h2=>⟨h1,h2⟩)
 have HQE:Hid (∀a' w',wpB Tryz.prog E B a' w'->(Exit.then (fun a' w'=>ParI w ts bo cap a' w'/\parM ts a' w'<parM ts {tmps:=(.slice bo ts.length cap::t1:: .bool false:: .int .i64 i::t4::t5::t6::t7::t8::t9::t10::t11::t12::t13::t14::t15::t16::t17::t18::t19::t20::t21::t22::t23::t24::t25::t26::t27::t28::t29::t30::t31::t32::t33::t34::t35::t36::t37::t38::t39::t40::t41::t42::t43::t44::t45::t46::t47::t48::t49::t50::t51::t52::t53::t54::t55::t56::t57::t58::t59::t60::[]).toArray,defers:=[]} w2) (Exit.inBlock 0 (Exit.then (wpB Tryz.prog E B) B))) (.exit 0) a' w'):=Lib.hid (fun a' w' h=>h)
 generalize (Exit.then (fun a' w'=>ParI w ts bo cap a' w'/\parM ts a' w'<parM ts {tmps:=(.slice bo ts.length cap::t1:: .bool false:: .int .i64 i::t4::t5::t6::t7::t8::t9::t10::t11::t12::t13::t14::t15::t16::t17::t18::t19::t20::t21::t22::t23::t24::t25::t26::t27::t28::t29::t30::t31::t32::t33::t34::t35::t36::t37::t38::t39::t40::t41::t42::t43::t44::t45::t46::t47::t48::t49::t50::t51::t52::t53::t54::t55::t56::t57::t58::t59::t60::[]).toArray,defers:=[]} w2) (Exit.inBlock 0 (Exit.then (wpB Tryz.prog E B) B)))=Q at HQN HQE⊢
 by_cases hlt:i<ts.length
 ·obtain⟨s,hs⟩:∃s,ts[i]? =some s:=⟨_,List.getElem?_eq_getElem hlt⟩
  obtain⟨g,off,rfl,hcell⟩:=HST.out (by rintro rfl;simp at hlt)
  have hc0:=hcell i s hs
  have hss:=HSZ.out s (List.mem_of_getElem? hs)
  have hz:0<w.heap.size:=World.block_lt_of_cell? w ⟨0,0,none⟩ hr
  have HNEXT:Hid (∀(t1 t4 t5 t6 t7 t8 t9 t10 t11 t12 t13 t14 t15 t16 t17 t18 t19 t20 t21 t22 t23 t24 t25 t26 t27 t28 t29 t30 t31 t32 t33 t34 t35 t36 t37 t38 t39 t40 t41 t42 t43 t44 t45 t46 t47 t48 t49 t50 t51 t52 t53 t54 t55 t56 t57 t58 t59 t60:Value) w3,Kin w w3->wpB Tryz.prog (seqR (seqR pp3)) Q {tmps:=(.slice (some ⟨g,off,none⟩) ts.length cap::t1:: .bool false:: .int .i64 i::t4::t5::t6::t7::t8::t9::t10::t11::t12::t13::t14::t15::t16::t17::t18::t19::t20::t21::t22::t23::t24::t25::t26::t27::t28::t29::t30::t31::t32::t33::t34::t35::t36::t37::t38::t39::t40::t41::t42::t43::t44::t45::t46::t47::t48::t49::t50::t51::t52::t53::t54::t55::t56::t57::t58::t59::t60::[]).toArray,defers:=[]} w3):=Lib.hid (by
   intro t1 t4 t5 t6 t7 t8 t9 t10 t11 t12 t13 t14 t15 t16 t17 t18 t19 t20 t21 t22 t23 t24 t25 t26 t27 t28 t29 t30 t31 t32 t33 t34 t35 t36 t37 t38 t39 t40 t41 t42 t43 t44 t45 t46 t47 t48 t49 t50 t51 t52 t53 t54 t55 t56 t57 t58 t59 t60 w3 K3
   refine wpB_lift hP fun T d=>?_
   generalize hW:re w3 T d=w4
   have HK4:Hid (Kin w w4):=Lib.hid (by rw[<-hW];exact K3.trans (zS w3 T d))
   clear hW
   simp only[pp3,pp2,pp0,seqL,seqR,jm,yo,Tryz.f6,Option.getD_some]
   go_wp2
   refine HQN.out _ _ ⟨i+1,_,_,_,_,_,_,_,_,_,_,_,_,_,_,_,_,_,_,_,_,_,_,_,_,_,_,_,_,_,_,_,_,_,_,_,_,_,_,_,_,_,_,_,_,_,_,_,_,_,_,_,_,_,_,_,_,_,_,hlt,HK4.out,rfl⟩ ?_
   show ts.length-(i+1)<ts.length-i
   omega)
  have HBODY:Hid (∀(t1 t4 t5 t6 t7 t8 t9 t10 t11 t12 t13 t14 t15 t16 t17 t18 t19 t20 t21 t22 t23 t24 t25 t26 t27 t28 t29 t30 t31 t32 t33 t34 t35 t36 t37 t38 t39 t40 t41 t42 t43 t44 t45 t46 t47 t48 t49 t50 t51 t52 t53 t54 t55 t56 t57 t58 t59 t60:Value) w3,Kin w w3->wpB Tryz.prog (.seq (.block 1 (.seq (seqL (yo (seqL (seqR pp3)))) pp4)) (seqR (seqR pp3))) Q {tmps:=(.slice (some ⟨g,off,none⟩) ts.length cap::t1:: .bool false:: .int .i64 i::t4::t5::t6::t7::t8::t9::t10::t11::t12::t13::t14::t15::t16::t17::t18::t19::t20::t21::t22::t23::t24::t25::t26::t27::t28::t29::t30::t31::t32::t33::t34::t35::t36::t37::t38::t39::t40::t41::t42::t43::t44::t45::t46::t47::t48::t49::t50::t51::t52::t53::t54::t55::t56::t57::t58::t59::t60::[]).toArray,defers:=[]} w3):=Lib.hid (by
   intro t1 t4 t5 t6 t7 t8 t9 t10 t11 t12 t13 t14 t15 t16 t17 t18 t19 t20 t21 t22 t23 t24 t25 t26 t27 t28 t29 t30 t31 t32 t33 t34 t35 t36 t37 t38 t39 t40 t41 t42 t43 t44 t45 t46 t47 t48 t49 t50 t51 t52 t53 t54 t55 t56 t57 t58 t59 t60 w3 K3
   refine wpB_seq hP (wpB_block hP ?_)
   exact parses_round hP w w3 K3 (hv.kin K3) b ((K3.cell hz).trans hr) (hg.kin K3) ts g off cap hcap i s hlt hn hss ((K3.cell (World.block_lt_of_cell? w _ hc0)).trans hc0) _ (Lib.hid HNEXT.out) t1 t4 t5 t6 t7 t8 t9 t10 t11 t12 t13 t14 t15 t16 t17 t18 t19 t20 t21 t22 t23 t24 t25 t26 t27 t28 t29 t30 t31 t32 t33 t34 t35 t36 t37 t38 t39 t40 t41 t42 t43 t44 t45 t46 t47 t48 t49 t50 t51 t52 t53 t54 t55 t56 t57 t58 t59 t60)
  clear HNEXT HEND
  refine wpB_seq hP (wpB_lift hP fun T d=>?_)
  generalize hW:re w2 T d=w4
  have HK4:Hid (Kin w w4):=Lib.hid (by rw[<-hW];exact HK.out.trans (zS w2 T d))
  clear hW
  generalize hX:(Code.seq (.block 1 (.seq (seqL (yo (seqL (seqR pp3)))) pp4)) (seqR (seqR pp3)))=X at HBODY⊢
  clear hX
  have hltd:decide ((i:Int)<(ts.length:Int))=true:=decide_eq_true (by omega)
  simp only[pp3,pp2,pp0,seqL,seqR,jm,yo,Tryz.f6,Option.getD_some]
  go_wp2
  exact HBODY.out _ _ _ _ _ _ _ _ _ _ _ _ _ _ _ _ _ _ _ _ _ _ _ _ _ _ _ _ _ _ _ _ _ _ _ _ _ _ _ _ _ _ _ _ _ _ _ _ _ _ _ _ _ _ _ _ _ _ w4 HK4.out
 ·refine wpB_seq hP (wpB_lift hP fun T d=>?_)
  generalize hW:re w2 T d=w4
  have HK4:Hid (Kin w w4):=Lib.hid (by rw[<-hW];exact HK.out.trans (zS w2 T d))
  clear hW
  generalize hX:(Code.seq (.block 1 (.seq (seqL (yo (seqL (seqR pp3)))) pp4)) (seqR (seqR pp3)))=X
  clear hX
  have hltd:decide ((i:Int)<(ts.length:Int))=false:=decide_eq_false (by omega)
  simp only[pp3,pp2,pp0,seqL,seqR,jm,yo,Tryz.f6,Option.getD_some]
  go_wp2
  exact HQE.out _ _ (HEND.out _ _ _ _ _ _ _ _ _ _ _ _ _ _ _ _ _ _ _ _ _ _ _ _ _ _ _ _ _ _ _ _ _ _ _ _ _ _ _ _ _ _ _ _ _ _ _ _ _ _ _ _ _ _ _ _ _ _ _ w4 HK4.out)
theorem zdw(hP:TameProg Tryz.prog)(w:World)(hv:VarsOk w)(b:Addr)(hr:w.cell? ⟨0,0,none⟩=some (.iface 253 (.pointer (some b))))(hg:xh w)(ts:List ByteArray)(sv:Value)(hst:zfO w sv ts)(hn:ts.length<=9223372036854775807)(hsz:∀t∈ts,t.size<=9223372036854775807):CallsB Tryz.prog 6 #[sv] w (TrueP w):=by
 have hR:∀w',¬TrueP w .outgrown w':=fun w' h=>h
 obtain⟨bo,cap,rfl,hcap,hne⟩:=hst
 refine jz hP Tryz.func6 (c:=pp0) rfl hR ?_
 rw[zjf]
 have ha:(#[Value.slice bo ts.length cap]++Array.replicate (Tryz.f6.ntmps- #[Value.slice bo ts.length cap].size) undef)= #[.slice bo ts.length cap,undef,undef,undef,undef,undef,undef,undef,undef,undef,undef,undef,undef,undef,undef,undef,undef,undef,undef,undef,undef,undef,undef,undef,undef,undef,undef,undef,undef,undef,undef,undef,undef,undef,undef,undef,undef,undef,undef,undef,undef,undef,undef,undef,undef,undef,undef,undef,undef,undef,undef,undef,undef,undef,undef,undef,undef,undef,undef,undef,undef]:=by
  simp only[Tryz.ntmps6]
  simp[Array.replicate_succ]
 rw[ha]
 clear ha
 have HT:Hid (∀w1,Kin w w1->∀t12 t13,wpB Tryz.prog pp2 (bodyPost Tryz.prog Tryz.f6 (TrueP w)) {tmps:=(.slice bo ts.length cap::undef:: .bool false::undef::undef::undef::undef::undef::undef::undef::undef::undef::t12::t13::undef::undef::undef::undef::undef::undef::undef::undef::undef::undef::undef::undef::undef::undef::undef::undef::undef::undef::undef::undef::undef::undef::undef::undef::undef::undef::undef::undef::undef::undef::undef::undef::undef::undef::undef::undef::undef::undef::undef::undef::undef::undef::undef::undef::undef::undef::undef::[]).toArray,defers:=[]} w1):=Lib.hid (fun w1 K1 t12 t13=>zb2 hP w w1 K1 hv b hr hg ts bo cap hcap hn hsz hne undef undef undef undef undef undef undef undef undef undef t12 t13 undef undef undef undef undef undef undef undef undef undef undef undef undef undef undef undef undef undef undef undef undef undef undef undef undef undef undef undef undef undef undef undef undef undef undef undef undef undef undef undef undef undef undef undef undef undef undef)
 have HF:=Lib.hid (fun w1 (K:Kin w w1)=>zah hP 253 _ w1 (hv.kin K) ((K.cell (World.block_lt_of_cell? w _ hr)).trans hr))
 clear hv hr hg hne hsz
 generalize hB:bodyPost Tryz.prog Tryz.f6 (TrueP w)=B at HT⊢
 clear hB
 generalize hX:pp2=X at HT⊢
 clear hX
 refine wpB_seq hP (wpB_lift hP fun T d=>?_)
 generalize hW:re w T d=w1
 have HK1:Hid (Kin w w1):=Lib.hid (by rw[<-hW];exact zS w T d)
 clear hW
 generalize hY:(Code.seq (.seq (seqL (seqL (seqR pp0))) (seqR (seqL (seqR pp0)))) X)=Y
 have HY:=Lib.hid hY
 clear hY
 simp only[pp0,seqL,seqR,Tryz.f6,Option.getD_some]
 go_wp2
 rw[<-HY.out]
 refine wpB_seq hP (wpB_seq hP ?_)
 obtain⟨id,hid⟩:=zii
 rw[hid]
 clear hid HY
 generalize hM:(Exit.then (wpB Tryz.prog (seqR (seqL (seqR pp0))) (Exit.then (wpB Tryz.prog X B) B)) (Exit.then (wpB Tryz.prog X B) B))=M
 have HM:Hid (∀a w',(∀T d,(seqR (seqL (seqR pp0))).wp Tryz.prog (Exit.then (wpB Tryz.prog X B) B) a (re w' T d))->M .normal a w'):=Lib.hid (fun a w' h=>by
  rw[<-hM]
  exact wpB_lift hP h)
 clear hM
 simp only[pp0,seqL,seqR,zm,Tryz.f6,Option.getD_some]
 refine xJ hP (l:=[_,_]) ?_
 refine qB hP Tryz.func13 (by kernel_rfl) (by kernel_rfl) rfl rfl (args:= #[]) (by simp[Act.eval,yS]) ((HF.out w1 HK1.out).mono ?_)
 rintro e w2 hpost
 cases e with
 |outgrown=>exact hpost.elim
 |panicked _=>exact hpost.elim
 |returned v=>
  obtain⟨rfl,K2⟩:=hpost
  have HT2:Hid (∀w3,Kin w1 w3->∀t12 t13,wpB Tryz.prog X B {tmps:=(.slice bo ts.length cap::undef:: .bool false::undef::undef::undef::undef::undef::undef::undef::undef::undef::t12::t13::undef::undef::undef::undef::undef::undef::undef::undef::undef::undef::undef::undef::undef::undef::undef::undef::undef::undef::undef::undef::undef::undef::undef::undef::undef::undef::undef::undef::undef::undef::undef::undef::undef::undef::undef::undef::undef::undef::undef::undef::undef::undef::undef::undef::undef::undef::undef::[]).toArray,defers:=[]} w3):=Lib.hid (fun w3 K3 t12 t13=>HT.out w3 (HK1.out.trans K3) t12 t13)
  have HK2:=Lib.hid K2
  clear HT HF HK1 K2
  show yx Tryz.prog _ _ _ _ w2
  refine listB_lift hP fun T d=>?_
  generalize hW:re w2 T d=w3
  have HK3:Hid (Kin w1 w3):=Lib.hid (by rw[<-hW];exact HK2.out.trans (zS w2 T d))
  clear hW HK2
  go_wp2
  refine HM.out _ _ fun T d=>?_
  generalize hW:re w3 T d=w4
  have HK4:Hid (Kin w1 w4):=Lib.hid (by rw[<-hW];exact HK3.out.trans (zS w3 T d))
  clear hW HK3 HM
  simp only[pp0,seqL,seqR,Tryz.f6,Option.getD_some]
  go_wp2
  exact HT2.out w4 HK4.out _ _
open Go.ChangeShapes Go.WideShapes Go.ChangeAt Go.RowKit Go.Conc
theorem zj0:Kids Tryz.prog (· <Tryz.prog.types.size):=kids_rows (by kernel_rfl) (by kernel_rfl)
theorem zj7:∀t e,t<Tryz.prog.types.size->Tryz.prog.underlying t=some (.slice e)->0<Tryz.prog.cellsOf e:=slices_full_of Tryz.prog (by kernel_rfl)
section
variable {H:Type} {enc:TypeId×Value->H} {P:Program} {sp:Nat->Bool} {held:Bool}
theorem zdp{W W':World}(K:Kin W W'){p:MemPlace}(hp:p.block<W.heap.size):W.sameAt W' p:=by
 cases p with
 |cell b off=>exact World.cell?_of_block (K.block b hp)
 |map b=>exact K.block b hp
theorem uo{W W':World}(K:Kin W W'):∀{ts:List TypeId} {vs:List Value} {ds:List (DataW H)} {ps:List MemPlace},DataW.TrodAll enc P W 0 sp held ts vs ds ps->(∀p∈ps,p.block<W.heap.size)->DataW.TrodAll enc P W' 0 sp held ts vs ds ps
 |[],[],[],_,h,_=>h
 |_::_,_::_,_::_,_,⟨p,q,⟨n,hn⟩,h2,e⟩,hs=>⟨p,q,⟨n,DataW.trod_carry n _ _ _ hn (fun x hx=>zdp K (hs x (by rw[e];exact List.mem_append_left _ hx)))⟩,uo K h2 (fun x hx=>hs x (by rw[e];exact List.mem_append_right _ hx)),e⟩
theorem zeB{w:World}{base:Nat}{v:Value}{d:DataW H}{ps:List MemPlace}(hv:∃a n c,v= .slice a n c)(h:DataW.Trod enc Tryz.prog w base sp held 23 v d ps):
 ∃ts:List ByteArray,zfO w v ts/\ts.length<=9223372036854775807/\∀t∈ts,t.size<=9223372036854775807:=by
 obtain⟨a0,n0,c0,rfl⟩:=hv
 obtain⟨fuel,hf⟩:=h
 have hcs:(Value.slice a0 n0 c0).cells.toList=[.slice a0 n0 c0]:=rfl
 rw[hcs] at hf
 have hmx:maxLen<=9223372036854775807:=by unfold maxLen;omega
 rcases Go.Deep.open_strs Tryz.underlying23 Tryz.underlying9 (by kernel_rfl) hf with⟨h1,h2⟩|⟨a,len,cap,m,Sx,h1,hb,hl,hm,hmm,hx,hi⟩
 ·cases h1
  exact⟨[],⟨none,0,rfl,Nat.le_refl _,fun h=>absurd rfl h⟩,by simp,fun t ht=>by cases ht⟩
 ·obtain⟨rfl,rfl,rfl⟩:a0=some a/\n0=len/\c0=cap:=by
   have h1:=(List.cons.inj h1).1
   simpa only [Value.slice.injEq] using h1
  have hlm:n0<=m:=by rw[hmm];split<;>omega
  refine⟨(List.range n0).map Sx,⟨some a,c0,by simp,by simpa using hl,fun hne=>?_⟩,by simp;omega,fun t ht=>?_⟩
  ·have hpos:0<n0:=by
    rcases Nat.eq_zero_or_pos n0 with h0|h0
    ·subst h0;simp at hne
    ·exact h0
   have h00:=(hi 0 (by omega)).1
   have hsp:a.spot=none:=by
    obtain⟨b,o,s⟩:=a
    cases s with
    |none=>rfl
    |some x=>
     exfalso
     unfold World.cell? Addr.add at h00
     split at h00<;>simp_all
   obtain⟨b,o,s⟩:=a
   simp only at hsp
   subst hsp
   refine⟨b,o,rfl,fun j t hj=>?_⟩
   rw[List.getElem?_map] at hj
   by_cases hjn:j<n0
   ·rw[List.getElem?_range hjn,Option.map_some] at hj
    cases hj
    have:=(hi j (by omega)).1
    rw[add_plain] at this
    exact this
   ·rw[List.getElem?_eq_none (by simp;omega)] at hj
    cases hj
  ·obtain⟨j,hj,rfl⟩:=List.mem_map.1 ht
   have:=(hi j (by have:=List.mem_range.1 hj;omega)).2
   omega
end
theorem zdO:Rows.parseParsesRow.laid=Rows.parseNestsRow.laid:=by kernel_rfl
theorem zat(os:Os)(started:os.Started)(H:Type)(enc:TypeId×Value->H):
 ReturnsInLeavingWide {} Tryz.checked os 6 .any (fun w args=>(Rows.parseParsesSpec.pre enc Tryz.prog Tryz.f6 Rows.parseParsesRow.domain false w args/\laidMetH Tryz.prog Rows.parseParsesRow.laid w)/\sizedMet enc Tryz.prog Tryz.f6 (OpenSpec.ofChange Rows.parseParsesSpec) false w args)
  (Rows.parseParsesSpec.post enc Tryz.prog Tryz.f6 false true false false):=by
 rw[zdO]
 refine yN (C:=Tryz.checked) (X:=fun w _=>laidMetH Tryz.prog Rows.parseNestsRow.laid w) (fun _ _ _ hh h=>h.of_heap hh) own0 started Tryz.func6
  (ChangeSpec.witness_shaped (enc:=enc) (C:=Tryz.checked) (os:=os) (X:=fun w _=>laidMetH Tryz.prog Rows.parseNestsRow.laid w) false (jY os) #[.slice none 0 0] 8 (uv _)
   (World.shaped_of_ZipB (by kernel_rfl) (by kernel_rfl)) (by kernel_rfl) (by kernel_rfl) (by kernel_rfl) (vI os _)) ?_
 intro W base args ds gs before hval0 hW _ hsz0 hL _
 have hval:∀(j:Nat) t v,Tryz.f6.params[j]? =some t->args[j]? =some v->Value.okWide Tryz.prog W .any base t v:=hval0
 have hW':=hW
 have hlt:∀p∈before,p.block<W.heap.size:=DataW.Whole.lt hW
 obtain⟨p,q,hA0,hV,rfl,_,_⟩:=hW
 have hA:DataW.TrodAll enc Tryz.prog W 0 (fun _=>true) true Tryz.f6.params.toList args.toList ds p:=hA0
 have hAll:=hA
 rw[Tryz.params6] at hA hval hAll
 obtain⟨v0,d0,rfl,rfl,h0⟩:=trodAll_one hA
 obtain⟨rfl,rfl⟩:=trodVars_none hV
 simp only[List.append_nil] at hlt
 obtain⟨ts,hst,hn,hsz⟩:=zeB (okWide_slice Tryz.underlying23 (hval 0 23 v0 rfl rfl)) h0
 obtain⟨l1,l2,⟨b,hr⟩,hT⟩:=wF hL
 have hsize:Tryz.prog.globals.size<=W.heap.size:=by
  obtain⟨_,_,_,_,h9⟩:=l2 9 (.inr rfl)
  have hlt:9<W.heap.size:=(Array.getElem?_eq_some_iff.1 h9).1
  have e:Tryz.prog.globals.size=10:=by kernel_rfl
  omega
 have hcall:=zdw Tryz.tame W ⟨l1,l2,hsize⟩ b hr hT ts v0 hst hn hsz
 have hcall2:Bsd.CallsB Tryz.prog 6 #[v0] W (fun| .returned v,w'=>v= .bool true/\Kin W w'|_,_=>False):=hcall.mono fun e w' h=>by
  cases e with
  |returned v=>exact h
  |panicked c=>exact h
  |outgrown=>exact h
 obtain⟨M,last,o,w',t',r1,r2,r3,r4⟩:=Bsd.callsB_run Tryz.tame Tryz.func6 (Post:=fun v w'=>v= .bool true/\Kin W w') rfl (by kernel_rfl) rfl (fun v w T d h=>⟨h.1,h.2.trans (zS w T d)⟩) hcall2
 refine⟨M,last,o,w',t',r1,r2,r3,r4.mono fun v hF=>?_⟩
 obtain⟨rfl,hk⟩:=hF
 have hback:=uo hk (DataW.TrodAll.respare (spare':=fun b=>decide (b<W.heap.size)) zj0 zj7 (by decide+kernel) hAll (fun p hp=>decide_eq_true (hlt p hp))) hlt
 exact⟨_,_,_,[],_,[],hW',trodAll_mk1 (shut_bool Tryz.underlying4 true),by rw[Tryz.params6];exact hback,rfl,ux hk _,fun h=>by cases h⟩
theorem parses_row:Rows.ParseParsesSaid:=
 OpenClaim.holds_of_wide_leaving 6 Tryz.f6 rfl rfl rfl rfl rfl rfl rfl ⟨rfl,rfl,rfl,rfl,rfl⟩ rfl rfl rfl rfl rfl (by kernel_rfl) Tryz.func6 (by kernel_rfl)
  (of_decide_eq_true (by kernel_rfl)) (by unfold Func.isWrapper;first|(rw[if_pos (by decide+kernel)];kernel_rfl)|(rw[if_neg (by decide+kernel)];exact⟨rfl,rfl⟩))
  (fun os started H enc _=>zat os started H enc)
theorem parses_card:Rows.ParseParsesCardSaid:=
 km .later [.data, .data, .data, .handle, .sentinel, .sentinel, .sentinel] true (true,"074e5f031ab4408176da533a2cefdc3afa561c3d929ccf1498e46e2ed11c108f") true
  parses_row (by kernel_rfl) parseParses_row_tie rfl ⟨rfl,rfl⟩ (by kernel_rfl) rfl
  (fun f fn hf hfn=>by
   obtain rfl:f=6:=Option.some.inj ((show Tryz.prog.funcNamed "winnow/winnowlaw03.ParseParses" =some 6 by kernel_rfl).symm.trans hf) |>.symm
   obtain rfl:fn=Tryz.f6:=(Option.some.inj (Tryz.func6.symm.trans hfn)).symm
   exact⟨by kernel_rfl,fun j t ht=>by
    rw[Tryz.params6] at ht
    have hm:t∈[23]:=by simpa using Array.mem_of_getElem? ht
    have hall:([23].all fun u=>!Tryz.prog.wantsStandIn u)=true:=by kernel_rfl
    exact(show Tryz.prog.wantsStandIn t=false by simpa using List.all_eq_true.1 hall t hm)⟩)
  (by kernel_rfl)
end Go.Proofs.YtonmcakdofbjiaaGreatDoor
