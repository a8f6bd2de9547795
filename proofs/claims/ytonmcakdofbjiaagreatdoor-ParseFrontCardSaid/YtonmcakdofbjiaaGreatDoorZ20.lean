/- A part. -/
import Derived.Test.YtonmcakdofbjiaaGreatDoorZ19
import Derived.BigRegion
import Derived.Laws.StructEq
import Derived.Test.YtonmcakdofbjiaaGreatDoorZ15
import Derived.Test.YtonmcakdofbjiaaGreatDoorZ10
set_option linter.all false
set_option maxRecDepth 100000
set_option maxHeartbeats 8000000
namespace Go.Proofs.YtonmcakdofbjiaaGreatDoor
open Go.RowKit
theorem gO{B r gb N m:Nat}{o o2:List Hold}{heads h':Bool}{depth kind:Int}{name:ByteArray}{num op at_:Int}{w wx:World}(a:Act)(hE:Ev [] 223 a [(0, .pointer (some ⟨r,0,none⟩)),(3, .pointer (some ⟨N,0,none⟩))])(hM:ShM wx B r gb o2 h')(cN0:wx.cell? ⟨N,0,none⟩=some (.int .i64 depth))(cN1:wx.cell? ⟨N,1,none⟩=some (.int .i64 kind))(hNr:N≠r)(hNg:N≠gb)(hl:o2.length=m)(hm:m<=24)
 (hst:xw o heads ⟨depth,kind,name,num,op,at_⟩=some (o2++[⟨kind,depth,zw kind,0⟩],h')) (ha:Ap r gb w wx):
 z6.wp Tryz.prog (bodyPost Tryz.prog Tryz.f51 (StandPost w B r gb o heads ⟨depth,kind,name,num,op,at_⟩)) a wx:=by
 rw[zgv]
 refine wp_seq (zd7 (D:=[]) ?_ ?_ hm hl hNr hNg hM ⟨cN0,cN1⟩ a hE)
 ·rintro⟨t',d'⟩ w' hsz hdf hM' hA'
  obtain rfl:d'=[]:=hdf
  obtain⟨a',ha'⟩:∃a':Act,a'=⟨t',[]⟩:=⟨_,rfl⟩
  have hsz:a'.tmps.size=223:=by rw[ha'];exact hsz
  have hdf:a'.defers=[]:=by rw[ha']
  rw[<-ha']
  show(seqR z6).wp Tryz.prog (bodyPost Tryz.prog Tryz.f51 (StandPost w B r gb o heads ⟨depth,kind,name,num,op,at_⟩)) a' w'
  have hfin:bodyPost Tryz.prog Tryz.f51 (StandPost w B r gb o heads ⟨depth,kind,name,num,op,at_⟩) .ret (a'.put (some 4) (.bool true)) w':=by
   refine⟨hdf, .bool true,?_,ha.trans hA',?_⟩
   ·have:(a'.put (some 4) (.bool true)).tmps.getD 4 undef= .bool true:=by
     show(a'.tmps.setIfInBounds 4 (.bool true)).getD 4 undef=_
     simp[Array.getD_eq_getD_getElem?,Array.getElem?_setIfInBounds,hsz]
    generalize (a'.put (some 4) (.bool true)).tmps=t at this⊢
    have hr:Tryz.f51.results= #[.tmp 4]:=rfl
    rw[Array.getD_eq_getD_getElem?] at this
    simp[results,hr,this]
   ·rw[hst]
    exact⟨rfl,hM'⟩
  generalize bodyPost Tryz.prog Tryz.f51 (StandPost w B r gb o heads ⟨depth,kind,name,num,op,at_⟩)=Q at hfin⊢
  subst ha'
  have HF:=Lib.hid hfin
  clear hfin hdf
  simp only[z6,yl,zG,st0,seqR,Tryz.f51,Option.getD_some]
  go_wp2
  exact HF.out
 ·intro d v c a w h
  refine⟨?_,h.2⟩
  have h1:=h.1
  cases d<;>exact h1
theorem stand_pop{B r gb N:Nat}{o o1:List Hold}{heads h':Bool}{depth kind:Int}{name:ByteArray}{num op at_:Int}{w wx:World}(hM:ShM wx B r gb o1 h')(cN0:wx.cell? ⟨N,0,none⟩=some (.int .i64 depth))(cN1:wx.cell? ⟨N,1,none⟩=some (.int .i64 kind))(hNr:N≠r)(hNg:N≠gb)(hd:∀(j:Nat) (x:Hold),o1[j]? =some x->x.depth=j+1)(ho:o1.length<=24)
 (hst:xw o heads ⟨depth,kind,name,num,op,at_⟩=some (popF depth o1++[⟨kind,depth,zw kind,0⟩],h')) (ha:Ap r gb w wx) (u1 u2 u5 u6 u7 u8 u9 u10 u11 u12 u13 u14 u15 u16 u17 u18 u19 u20 u21 u22 u23 u24 u25 u26 u27 u28 u29 u30 u31 u32 u33 u34 u35 u36 u37 u38 u39 u40 u41 u42 u43 u44 u45 u46 u47 u48 u49 u50 u51 u52 u53 u54 u55 u56 u57 u58 u59 u60 u61 u62 u63 u64 u65 u66 u67 u68 u69 u70 u71 u72 u73 u74 u75 u76 u77 u78 u79 u80 u81 u82 u83 u84 u85 u86 u87 u88 u89 u90 u91 u92 u93 u94 u95 u96 u97 u98 u99 u100 u101 u102 u103 u104 u105 u106 u107 u108 u109 u110 u111 u112 u113 u114 u115 u116 u117 u118 u119 u120 u121 u122 u123 u124 u125 u126 u127 u128 u129 u130 u131 u132 u133 u134 u135 u136 u137 u138 u139 u140 u141 u142 u143 u144 u145 u146 u147 u148 u149 u150 u151 u152 u153 u154 u155 u156 u157 u158 u159 u160 u161 u162 u163 u164 u165 u166 u167 u168 u169 u170 u171 u172 u173 u174 u175 u176 u177 u178 u179 u180 u181 u182 u183 u184 u185 u186 u187 u188 u189 u190 u191 u192 u193 u194 u195 u196 u197 u198 u199 u200 u201 u202 u203 u204 u205 u206 u207 u208 u209 u210 u211 u212 u213 u214 u215 u216 u217 u218 u219 u220 u221 u222:Value):
 yl.wp Tryz.prog (bodyPost Tryz.prog Tryz.f51 (StandPost w B r gb o heads ⟨depth,kind,name,num,op,at_⟩)) ⟨(.pointer (some ⟨r,0,none⟩)::u1::u2:: .pointer (some ⟨N,0,none⟩):: .bool false::u5::u6::u7::u8::u9::u10::u11::u12::u13::u14::u15::u16::u17::u18::u19::u20::u21::u22::u23::u24::u25::u26::u27::u28::u29::u30::u31::u32::u33::u34::u35::u36::u37::u38::u39::u40::u41::u42::u43::u44::u45::u46::u47::u48::u49::u50::u51::u52::u53::u54::u55::u56::u57::u58::u59::u60::u61::u62::u63::u64::u65::u66::u67::u68::u69::u70::u71::u72::u73::u74::u75::u76::u77::u78::u79::u80::u81::u82::u83::u84::u85::u86::u87::u88::u89::u90::u91::u92::u93::u94::u95::u96::u97::u98::u99::u100::u101::u102::u103::u104::u105::u106::u107::u108::u109::u110::u111::u112::u113::u114::u115::u116::u117::u118::u119::u120::u121::u122::u123::u124::u125::u126::u127::u128::u129::u130::u131::u132::u133::u134::u135::u136::u137::u138::u139::u140::u141::u142::u143::u144::u145::u146::u147::u148::u149::u150::u151::u152::u153::u154::u155::u156::u157::u158::u159::u160::u161::u162::u163::u164::u165::u166::u167::u168::u169::u170::u171::u172::u173::u174::u175::u176::u177::u178::u179::u180::u181::u182::u183::u184::u185::u186::u187::u188::u189::u190::u191::u192::u193::u194::u195::u196::u197::u198::u199::u200::u201::u202::u203::u204::u205::u206::u207::u208::u209::u210::u211::u212::u213::u214::u215::u216::u217::u218::u219::u220::u221::u222::[]).toArray,[]⟩ wx:=by
 have HM:=Lib.hid hM
 have HD:=Lib.hid hd
 have HA:=Lib.hid ha
 have HS:=Lib.hid hst
 have hng:=hM.ne
 have hNl:=World.block_lt_of_cell? wx ⟨N,0,none⟩ cN0
 clear hM hd ha hst
 generalize hQ:bodyPost Tryz.prog Tryz.f51 (StandPost w B r gb o heads ⟨depth,kind,name,num,op,at_⟩)=Q
 have HQ:=Lib.hid hQ
 clear hQ
 rw[zgu]
 refine wp_seq ?_
 generalize hY:z6.wp Tryz.prog Q=Y
 have HY:=Lib.hid hY
 clear hY
 simp only[yl,zG,st0,seqL,seqR,Tryz.f51,Option.getD_some]
 go_wp2_with fail
 go_loopg [168] o1.length (fun g x4 wq=>∃m:Nat,m<=o1.length/\g=m/\ShM wq B r gb (o1.take m) h'/\Ap r gb wx wq/\∀(j:Nat) (x:Hold),m<=j->o1[j]? =some x->depth<=x.depth)
 case atStart=>
  refine⟨o1.length,Nat.le_refl _,rfl,by rw[List.take_length];exact HM.out,Ap.refl _,fun j x hj hx=>?_⟩
  have:=(List.getElem?_eq_some_iff.1 hx).1
  omega
 case round=>
  obtain⟨m,hm,hg,hMq,hAq,hbe⟩:=hrel
  have hlen:(o1.take m).length=m:=by simp;omega
  have c0:=hMq.c0
  rw[hlen] at c0
  have dN0:=(hAq.cell hNl hNr hNg).trans cN0
  have dN1:=(hAq.cell hNl hNr hNg).trans cN1
  have HMQ:=Lib.hid hMq
  have HAQ:=Lib.hid hAq
  have HBE:=Lib.hid hbe
  have HG:=Lib.hid hg
  clear hMq hAq hbe hg
  cases m with
  |zero=>
   clear hlen
   go_wp2_with fail
   go_quiet (fail)
   go_wp2_with fail
   have hps:popF depth o1=o1.take 0:=zaR (Nat.zero_le _) HBE.out (.inl rfl)
   rw[<-HY.out,<-HQ.out]
   exact gO (m:=0) _ ⟨rfl,rfl,by simp[Act.eval]⟩ (HMQ.out.drewN nq) dN0 dN1 hNr hNg (by simp) (by omega) (by rw[<-hps];exact HS.out) (HA.out.trans (HAQ.out.drewN nq))
  |succ i=>
   clear hlen
   have hil:i<o1.length:=by omega
   obtain⟨x,hx⟩:∃x,o1[i]? =some x:=⟨_,List.getElem?_eq_getElem hil⟩
   have hxt:(o1.take (i+1))[i]? =some x:=by rw[List.getElem?_take,if_pos (by omega)];exact hx
   have q1:=HMQ.out.depth hxt
   have f0:=HMQ.out.fs 0
   have hxd:=HD.out i x hx
   have hp1:(0:Int)<((i+1:Nat):Int):=by omega
   have hp2:(0:Int)<=(i:Int):=by omega
   have hp3:(i:Int)<((i+1:Nat):Int):=by omega
   rw[hxd] at q1
   have HX:=Lib.hid hx
   have HXD:=Lib.hid hxd
   clear hx hxt hxd
   by_cases hdx:depth<=(i:Int)+1
   ·have hdd:decide (depth<=(i:Int)+1)=true:=by simp[hdx]
    have HDX:=Lib.hid hdx
    clear hdx
    go_wp2_with fail
    go_quiet (fail)
    go_wp2_with fail
    have gW:wr.drewN nq=wr.drewN nq:=rfl
    have HMW:=Lib.hid (HMQ.out.drewN nq)
    have HAW:=Lib.hid (HAQ.out.drewN nq)
    have cW0:(wr.drewN nq).cell? ⟨r,0,none⟩=some (.slice (some ⟨gb,0,none⟩) (i+1) 26):=c0
    have fW0:(wr.drewN nq).frozen? ⟨r,0,none⟩=false:=f0
    clear gW c0 f0 q1 dN0 dN1 HMQ HAQ
    generalize wr.drewN nq=W at HMW HAW cW0 fW0⊢
    go_region
    go_wp2_with fail
    go_roundg i
    case measure=>have:=HG.out;omega
    case rel=>
     have hlm:(o1.take (i+1)).length=i+1:=by simp;omega
     have h1:=HMW.out.trunc (m:=i) (by omega)
     rw[List.take_take,show min i (i+1)=i from by omega] at h1
     refine⟨i,by omega,rfl,h1.kept fun _ _=>rfl,((HAW.out.set (a:=⟨r,0,none⟩) (.inl rfl) _).drewN 1),fun j y hj hy=>?_⟩
     by_cases e:j=i
     ·subst e
      rw[HX.out] at hy
      cases hy
      have h3:=HDX.out
      have h4:=HXD.out
      omega
     ·exact HBE.out j y (by omega) hy
   ·have hdd:decide (depth<=(i:Int)+1)=false:=by simp[hdx]
    have HDX:=Lib.hid hdx
    clear hdx
    go_wp2_with fail
    go_quiet (fail)
    go_wp2_with fail
    have hps:popF depth o1=o1.take (i+1):=zaR hm HBE.out (.inr ⟨x,by simpa using HX.out,by have:=HDX.out;have:=HXD.out;omega⟩)
    rw[<-HY.out,<-HQ.out]
    exact gO (m:=i+1) _ ⟨rfl,rfl,by simp[Act.eval]⟩ (HMQ.out.drewN nq) dN0 dN1 hNr hNg (by simp;omega) (by omega) (by rw[<-hps];exact HS.out) (HA.out.trans (HAQ.out.drewN nq))
theorem stand_tail{B r gb N:Nat}{o o1:List Hold}{heads:Bool}{depth kind:Int}{name:ByteArray}{num op at_:Int}{w wx:World}(hM:ShM wx B r gb o1 heads)(cN0:wx.cell? ⟨N,0,none⟩=some (.int .i64 depth))(cN1:wx.cell? ⟨N,1,none⟩=some (.int .i64 kind))(hNr:N≠r)(hNg:N≠gb)(hd:∀(j:Nat) (x:Hold),o1[j]? =some x->x.depth=j+1)(ho:o1.length<=24)
 (ht:takeF o heads ⟨depth,kind,name,num,op,at_⟩=some o1) (hf:fieldsB ⟨depth,kind,name,num,op,at_⟩=true) (ha:Ap r gb w wx) (u1 u2 u5 u6 u7 u8 u9 u10 u11 u12 u13 u14 u15 u16 u17 u18 u19 u20 u21 u22 u23 u24 u25 u26 u27 u28 u29 u30 u31 u32 u33 u34 u35 u36 u37 u38 u39 u40 u41 u42 u43 u44 u45 u46 u47 u48 u49 u50 u51 u52 u53 u54 u55 u56 u57 u58 u59 u60 u61 u62 u63 u64 u65 u66 u67 u68 u69 u70 u71 u72 u73 u74 u75 u76 u77 u78 u79 u80 u81 u82 u83 u84 u85 u86 u87 u88 u89 u90 u91 u92 u93 u94 u95 u96 u97 u98 u99 u100 u101 u102 u103 u104 u105 u106 u107 u108 u109 u110 u111 u112 u113 u114 u115 u116 u117 u118 u119 u120 u121 u122 u123 u124 u125 u126 u127 u128 u129 u130 u131 u132 u133 u134 u135 u136 u137 u138 u139 u140 u141 u142 u143 u144 u145 u146 u147 u148 u149 u150 u151 u152 u153 u154 u155 u156 u157 u158 u159 u160 u161 u162 u163 u164 u165 u166 u167 u168 u169 u170 u171 u172 u173 u174 u175 u176 u177 u178 u179 u180 u181 u182 u183 u184 u185 u186 u187 u188 u189 u190 u191 u192 u193 u194 u195 u196 u197 u198 u199 u200 u201 u202 u203 u204 u205 u206 u207 u208 u209 u210 u211 u212 u213 u214 u215 u216 u217 u218 u219 u220 u221 u222:Value):
 zG.wp Tryz.prog (bodyPost Tryz.prog Tryz.f51 (StandPost w B r gb o heads ⟨depth,kind,name,num,op,at_⟩)) ⟨(.pointer (some ⟨r,0,none⟩)::u1::u2:: .pointer (some ⟨N,0,none⟩):: .bool false::u5::u6::u7::u8::u9::u10::u11::u12::u13::u14::u15::u16::u17::u18::u19::u20::u21::u22::u23::u24::u25::u26::u27::u28::u29::u30::u31::u32::u33::u34::u35::u36::u37::u38::u39::u40::u41::u42::u43::u44::u45::u46::u47::u48::u49::u50::u51::u52::u53::u54::u55::u56::u57::u58::u59::u60::u61::u62::u63::u64::u65::u66::u67::u68::u69::u70::u71::u72::u73::u74::u75::u76::u77::u78::u79::u80::u81::u82::u83::u84::u85::u86::u87::u88::u89::u90::u91::u92::u93::u94::u95::u96::u97::u98::u99::u100::u101::u102::u103::u104::u105::u106::u107::u108::u109::u110::u111::u112::u113::u114::u115::u116::u117::u118::u119::u120::u121::u122::u123::u124::u125::u126::u127::u128::u129::u130::u131::u132::u133::u134::u135::u136::u137::u138::u139::u140::u141::u142::u143::u144::u145::u146::u147::u148::u149::u150::u151::u152::u153::u154::u155::u156::u157::u158::u159::u160::u161::u162::u163::u164::u165::u166::u167::u168::u169::u170::u171::u172::u173::u174::u175::u176::u177::u178::u179::u180::u181::u182::u183::u184::u185::u186::u187::u188::u189::u190::u191::u192::u193::u194::u195::u196::u197::u198::u199::u200::u201::u202::u203::u204::u205::u206::u207::u208::u209::u210::u211::u212::u213::u214::u215::u216::u217::u218::u219::u220::u221::u222::[]).toArray,[]⟩ wx:=by
 have HM:=Lib.hid hM
 have HD:=Lib.hid hd
 have HA:=Lib.hid ha
 have hst:xw o heads ⟨depth,kind,name,num,op,at_⟩=some (popF depth o1++[⟨kind,depth,zw kind,0⟩],if kind=0\/kind=1 then heads else false):=by
  unfold xw
  rw[if_neg (by simp[hf]),ht]
 have cs1:=hM.c1
 have fs1:=hM.fs 1
 clear hM hd ha ht hf
 generalize hQ:bodyPost Tryz.prog Tryz.f51 (StandPost w B r gb o heads ⟨depth,kind,name,num,op,at_⟩)=Q
 have HQ:=Lib.hid hQ
 clear hQ
 rw[zeC]
 refine wp_seq ?_
 generalize hY:yl.wp Tryz.prog Q=Y
 have HY:=Lib.hid hY
 clear hY
 simp only[zG,st0,seqL,seqR,Tryz.f51,Option.getD_some]
 by_cases k0:kind=0
 ·subst k0
  rw[if_pos (.inl rfl)] at hst
  have HS:=Lib.hid hst
  clear hst
  go_wp2_with fail
  rw[<-HY.out,<-HQ.out]
  exact stand_pop HM.out cN0 cN1 hNr hNg HD.out ho HS.out HA.out _ _ _ _ _ _ _ _ _ _ _ _ _ _ _ _ _ _ _ _ _ _ _ _ _ _ _ _ _ _ _ _ _ _ _ _ _ _ _ _ _ _ _ _ _ _ _ _ _ _ _ _ _ _ _ _ _ _ _ _ _ _ _ _ _ _ _ _ _ _ _ _ _ _ _ _ _ _ _ _ _ _ _ _ _ _ _ _ _ _ _ _ _ _ _ _ _ _ _ _ _ _ _ _ _ _ _ _ _ _ _ _ _ _ _ _ _ _ _ _ _ _ _ _ _ _ _ _ _ _ _ _ _ _ _ _ _ _ _ _ _ _ _ _ _ _ _ _ _ _ _ _ _ _ _ _ _ _ _ _ _ _ _ _ _ _ _ _ _ _ _ _ _ _ _ _ _ _ _ _ _ _ _ _ _ _ _ _ _ _ _ _ _ _ _ _ _ _ _ _ _ _ _ _ _ _ _ _ _ _ _ _ _ _ _ _ _ _ _ _
 ·have k0b:(kind==0)=false:=by simp[k0]
  have k0c:(kind !=0)=true:=by simp[k0]
  by_cases k1:kind=1
  ·subst k1
   rw[if_pos (.inr rfl)] at hst
   have HS:=Lib.hid hst
   clear hst
   go_wp2_with fail
   rw[<-HY.out,<-HQ.out]
   exact stand_pop HM.out cN0 cN1 hNr hNg HD.out ho HS.out HA.out _ _ _ _ _ _ _ _ _ _ _ _ _ _ _ _ _ _ _ _ _ _ _ _ _ _ _ _ _ _ _ _ _ _ _ _ _ _ _ _ _ _ _ _ _ _ _ _ _ _ _ _ _ _ _ _ _ _ _ _ _ _ _ _ _ _ _ _ _ _ _ _ _ _ _ _ _ _ _ _ _ _ _ _ _ _ _ _ _ _ _ _ _ _ _ _ _ _ _ _ _ _ _ _ _ _ _ _ _ _ _ _ _ _ _ _ _ _ _ _ _ _ _ _ _ _ _ _ _ _ _ _ _ _ _ _ _ _ _ _ _ _ _ _ _ _ _ _ _ _ _ _ _ _ _ _ _ _ _ _ _ _ _ _ _ _ _ _ _ _ _ _ _ _ _ _ _ _ _ _ _ _ _ _ _ _ _ _ _ _ _ _ _ _ _ _ _ _ _ _ _ _ _ _ _ _ _ _ _ _ _ _ _ _ _ _ _ _ _ _
  ·have k1b:(kind==1)=false:=by simp[k1]
   have k1c:(kind !=1)=true:=by simp[k1]
   rw[if_neg (by omega)] at hst
   have HS:=Lib.hid hst
   clear hst k0 k1
   go_wp2_with fail
   rw[<-HY.out,<-HQ.out]
   have c0':(wx.setCell ⟨r,1,none⟩ (.bool false)).cell? ⟨N,0,none⟩=some (.int .i64 depth):=by simp[go_sem,cN0,hNr]
   have c1':(wx.setCell ⟨r,1,none⟩ (.bool false)).cell? ⟨N,1,none⟩=some (.int .i64 kind):=by simp[go_sem,cN1,hNr]
   exact stand_pop (HM.out.setHeads false) c0' c1' hNr hNg HD.out ho HS.out (HA.out.set (a:=⟨r,1,none⟩) (.inl rfl) _) _ _ _ _ _ _ _ _ _ _ _ _ _ _ _ _ _ _ _ _ _ _ _ _ _ _ _ _ _ _ _ _ _ _ _ _ _ _ _ _ _ _ _ _ _ _ _ _ _ _ _ _ _ _ _ _ _ _ _ _ _ _ _ _ _ _ _ _ _ _ _ _ _ _ _ _ _ _ _ _ _ _ _ _ _ _ _ _ _ _ _ _ _ _ _ _ _ _ _ _ _ _ _ _ _ _ _ _ _ _ _ _ _ _ _ _ _ _ _ _ _ _ _ _ _ _ _ _ _ _ _ _ _ _ _ _ _ _ _ _ _ _ _ _ _ _ _ _ _ _ _ _ _ _ _ _ _ _ _ _ _ _ _ _ _ _ _ _ _ _ _ _ _ _ _ _ _ _ _ _ _ _ _ _ _ _ _ _ _ _ _ _ _ _ _ _ _ _ _ _ _ _ _ _ _ _ _ _ _ _ _ _ _ _ _ _ _ _ _ _
theorem stand_refuse{w w':World}{B r gb:Nat}{o:List Hold}{heads:Bool}{n:Nd}(hn:takeF o heads n=none)(ha:Ap r gb w w'):StandPost w B r gb o heads n (.returned (.bool false)) w':=by
 refine⟨ha,?_⟩
 have:xw o heads n=none:=by
  unfold xw
  split
  ·rfl
  ·rw[hn]
 rw[this]
theorem set_depth{o:List Hold}(hd:∀(j:Nat) (x:Hold),o[j]? =some x->x.depth=j+1){u:Nat}{g g':Hold}(hg:o[u]? =some g)(he:g'.depth=g.depth):∀(j:Nat) (x:Hold),(o.set u g')[j]? =some x->x.depth=j+1:=by
 intro j x hx
 rw[List.getElem?_set] at hx
 split at hx
 ·rename_i e
  split at hx
  ·cases hx;subst e;rw[he];exact hd u g hg
  ·cases hx
 ·exact hd j x hx
theorem res51(t:Array Value)(b:Bool)(h:t.getD 4 undef= .bool b)(w:World):(results Tryz.f51 t).run Tryz.prog w= .ok (.bool b) w:=by
 have hr:Tryz.f51.results= #[.tmp 4]:=rfl
 rw[Array.getD_eq_getD_getElem?] at h
 simp[results,hr,h]
noncomputable def st3:Code:=seqL (seqR (seqR st0))
theorem zja:st0= .seq (seqL st0) (.seq (seqL (seqR st0)) (.seq st3 zG)):=rfl
def F3(r N:Nat)(depth kind:Int)(name:ByteArray)(num op at_:Int):Act:=⟨((.pointer (some ⟨r,0,none⟩))::(.agg #[.int .i64 depth, .int .i64 kind, .string name, .int .i64 num, .int .i64 op, .int .i64 at_])::undef::(.pointer (some ⟨N,0,none⟩))::(.bool false)::undef::undef::undef::undef::(.agg #[.int .i64 depth, .int .i64 kind, .string name, .int .i64 num, .int .i64 op, .int .i64 at_])::(.bool true)::(.bool false)::undef::undef::undef::undef::undef::undef::undef::undef::undef::undef::undef::undef::undef::undef::undef::undef::undef::undef::undef::undef::undef::undef::undef::undef::undef::undef::undef::undef::undef::undef::undef::undef::undef::undef::undef::undef::undef::undef::undef::undef::undef::undef::undef::undef::undef::undef::undef::undef::undef::undef::undef::undef::undef::undef::undef::undef::undef::undef::undef::undef::undef::undef::undef::undef::undef::undef::undef::undef::undef::undef::undef::undef::undef::undef::undef::undef::undef::undef::undef::undef::undef::undef::undef::undef::undef::undef::undef::undef::undef::undef::undef::undef::undef::undef::undef::undef::undef::undef::undef::undef::undef::undef::undef::undef::undef::undef::undef::undef::undef::undef::undef::undef::undef::undef::undef::undef::undef::undef::undef::undef::undef::undef::undef::undef::undef::undef::undef::undef::undef::undef::undef::undef::undef::undef::undef::undef::undef::undef::undef::undef::undef::undef::undef::undef::undef::undef::undef::undef::undef::undef::undef::undef::undef::undef::undef::undef::undef::undef::undef::undef::undef::undef::undef::undef::undef::undef::undef::undef::undef::undef::undef::undef::undef::undef::undef::undef::undef::undef::undef::undef::undef::undef::undef::undef::undef::undef::undef::undef::undef::undef::undef::undef::undef::undef::undef::undef::undef::undef::undef::undef::undef::undef::undef::undef::undef::undef::undef::undef::undef::undef::undef::[]).toArray,[]⟩
structure Hd (w w2:World) (B r gb N:Nat) (o:List Hold) (heads:Bool) (depth kind:Int):Prop where
 ap:Ap r gb w w2
 shm:ShM w2 B r gb o heads
 c0:w2.cell? ⟨N,0,none⟩=some (.int .i64 depth)
 c1:w2.cell? ⟨N,1,none⟩=some (.int .i64 kind)
 nr:N≠r
 ng:N≠gb
theorem zde{B r gb:Nat}{o:List Hold}{heads:Bool}(depth kind:Int)(name:ByteArray)(num op at_:Int)(hs:name.size<=140737488355328)(w:World)(h:ShM w B r gb o heads)
 (hk:fieldsB ⟨depth,kind,name,num,op,at_⟩=true->∀w2 N,Hd w w2 B r gb N o heads depth kind->st3.wp Tryz.prog (Exit.then (zG.wp Tryz.prog (bodyPost Tryz.prog Tryz.f51 (StandPost w B r gb o heads ⟨depth,kind,name,num,op,at_⟩))) (bodyPost Tryz.prog Tryz.f51 (StandPost w B r gb o heads ⟨depth,kind,name,num,op,at_⟩))) (F3 r N depth kind name num op at_) w2):
 Calls Tryz.prog 51 #[.pointer (some ⟨r,0,none⟩), .agg #[.int .i64 depth, .int .i64 kind, .string name, .int .i64 num, .int .i64 op, .int .i64 at_]] w (StandPost w B r gb o heads ⟨depth,kind,name,num,op,at_⟩):=by
 have HM:=Lib.hid h
 have hf:=zdW ⟨depth,kind,name,num,op,at_⟩ hs
 simp only[Nd.cells] at hf
 have hlt:=h.s.lt
 have hgt:gb<w.heap.size:=by obtain⟨F,h1,_⟩:=h.row;exact h1.lt
 cases hfb:fieldsB ⟨depth,kind,name,num,op,at_⟩ with
 |false=>
  have hst:xw o heads ⟨depth,kind,name,num,op,at_⟩=none:=by simp[xw,hfb]
  rw[hfb] at hf
  clear hfb h hk hlt hgt
  go_enter Tryz.func51,Tryz.ntmps51
  go_wp2_with (go_at_call 95;refine(hf _).mono ?_;rintro e w1 ⟨rfl,k1⟩)
  go_ret
  exact⟨(Ap.of_kin ((Kin.refl w).alloc _)).trans (Ap.of_kin k1),by rw[hst];rfl⟩
 |true=>
  rw[hfb] at hf
  have HK:=Lib.hid (hk hfb)
  clear hfb h hk
  go_enter Tryz.func51,Tryz.ntmps51
  generalize hQ:bodyPost Tryz.prog Tryz.f51 (StandPost w B r gb o heads ⟨depth,kind,name,num,op,at_⟩)=Q at HK⊢
  have HQ:=Lib.hid hQ
  clear hQ
  change Code.wp Tryz.prog st0 Q _ _
  rw[zja]
  refine wp_seq ?_
  generalize hY:Code.wp Tryz.prog ((seqL (seqR st0)).seq (st3.seq zG)) Q=Y
  have HY:=Lib.hid hY
  clear hY
  simp only[st0,seqL,Tryz.f51,Option.getD_some]
  go_wp2
  rw[<-HY.out]
  refine wp_seq ?_
  have hx:Code.wp Tryz.prog (st3.seq zG) Q=Code.wp Tryz.prog (st3.seq zG) Q:=rfl
  generalize hZ:Code.wp Tryz.prog (st3.seq zG) Q=Z
  have HZ:=Lib.hid hZ
  clear hZ hx
  simp only[st0,seqL,seqR,Tryz.f51,Option.getD_some]
  have k0:=(Kin.refl w).alloc (Obj.cells #[Value.int IntKind.i64 depth,Value.int IntKind.i64 kind,Value.string name,Value.int IntKind.i64 num,Value.int IntKind.i64 op,Value.int IntKind.i64 at_] 50)
  have hS:=xy w 50 (.int .i64 depth) (.int .i64 kind) (.string name) (.int .i64 num) (.int .i64 op) (.int .i64 at_)
  go_wp2_with (go_at_call 95;refine(hf _).mono ?_;rintro e w1 ⟨rfl,k1⟩)
  rw[<-HZ.out]
  refine wp_seq ?_
  have k2:=k0.trans k1
  exact HK.out w1 w.heap.size ⟨Ap.of_kin k2,HM.out.kin k2,(k1.cell (by simp)).trans hS.c0,(k1.cell (by simp)).trans hS.c1,by omega,by omega⟩
theorem zbK{B r gb N:Nat}{o:List Hold}{heads:Bool}{st:List Opn}{begun:Bool}{depth kind:Int}{name:ByteArray}{num op at_:Int}{w w2:World}(hI:ShI o heads st begun)(ho:o.length<=24)(hf:fieldsB ⟨depth,kind,name,num,op,at_⟩=true)(hH:Hd w w2 B r gb N o heads depth kind){u:Nat}(hwi:xX o=some u):st3.wp Tryz.prog (Exit.then (zG.wp Tryz.prog (bodyPost Tryz.prog Tryz.f51 (StandPost w B r gb o heads ⟨depth,kind,name,num,op,at_⟩))) (bodyPost Tryz.prog Tryz.f51 (StandPost w B r gb o heads ⟨depth,kind,name,num,op,at_⟩))) (F3 r N depth kind name num op at_) w2:=by
 have H:=Lib.hid hH
 have HI:=Lib.hid hI
 have HF:=Lib.hid hf
 have cN0:=hH.c0
 have cN1:=hH.c1
 have hNr:=hH.nr
 have hNg:=hH.ng
 have hng:=hH.shm.ne
 have hw52:=kx w2 hH.shm
 clear hH hI hf
 unfold F3
 generalize hQ:bodyPost Tryz.prog Tryz.f51 (StandPost w B r gb o heads ⟨depth,kind,name,num,op,at_⟩)=Q
 have HQ:=Lib.hid hQ
 clear hQ
 generalize hY:zG.wp Tryz.prog Q=Y
 have HY:=Lib.hid hY
 clear hY
 obtain⟨⟨g,hg,hgw⟩,hlater⟩:=xq hwi
 clear hlater
 rw[hwi] at hw52
 have e1:ixV (some u)=(u:Int):=rfl
 rw[e1] at hw52
 clear e1
 have c0:=H.out.shm.c0
 have hgd:=HI.out.depth u g hg
 have hgs:=HI.out.small u g hg
 have hul:=(List.getElem?_eq_some_iff.1 hg).1
 have d1:=H.out.shm.depth hg
 have b1:=H.out.shm.blocks hg
 obtain⟨v,v1,hva⟩:=H.out.shm.wants hg
 have f2:=H.out.shm.fr (u*4+2)
 have f3:=H.out.shm.fr (u*4+3)
 rw[hgd] at d1
 obtain⟨x,rest,hxr⟩:∃x rest,g.wants=x::rest:=by
  cases hgw2:g.wants with
  |nil=>rw[hgw2] at hgw;cases hgw
  |cons x rest=>exact⟨x,rest,rfl⟩
 rw[hxr] at hva
 obtain⟨gw,off,cap,rfl,hcap,x1,hwt,hwt2⟩:=hva.tail
 have HWT:=Lib.hid hwt
 have HWT2:=Lib.hid hwt2
 have hu0:(0:Int)<=u:=by omega
 have hr1:(0:Int)<((rest.length+1:Nat):Int):=by omega
 have HTK:Hid (takeF o heads ⟨depth,kind,name,num,op,at_⟩=if depth≠(u:Int)+1+1\/(x=0/\zZ kind=false)\/(x=1/\kind≠9) then none else some (o.set u {g with wants:=rest,blocks:=if x=1 then g.blocks+1 else g.blocks})):=by
  show _=_
  unfold takeF
  simp only[hwi,hg,hxr,hgd]
 have HG:=Lib.hid hg
 clear hva hwt hwt2 hgw hwi hxr hgd hg
 simp only[st3,st0,seqL,seqR,Tryz.f51,Option.getD_some]
 by_cases hd:depth=(u:Int)+1+1
 ·have hd1:(depth==(u:Int)+1+1)=true:=by simp[hd]
  have hd2:(depth !=(u:Int)+1+1)=false:=by simp[hd]
  have hdd:¬depth≠(u:Int)+1+1:=by simp[hd]
  clear hd
  by_cases hx0:x=0
  ·subst hx0
   cases hke:zZ kind with
   |false=>
    have hn:takeF o heads ⟨depth,kind,name,num,op,at_⟩=none:=by rw[HTK.out,if_pos (.inr (.inl ⟨rfl,hke⟩))]
    have HN:=Lib.hid hn
    clear hn hdd
    go_wp2_with (go_at_call 52;refine hw52.mono ?_;rintro e w3 ⟨rfl,rfl⟩)
    go_quiet ((go_at_call 96;exact Calls.quiet_of_same (isExpr_any _ _)))
    go_wp2
    rw[<-HQ.out]
    exact⟨rfl,_,res51 _ false rfl _,stand_refuse HN.out (H.out.ap.trans ((Ap.refl _).drewN _))⟩
   |true=>
    have hn:takeF o heads ⟨depth,kind,name,num,op,at_⟩=some (o.set u {g with wants:=rest}):=by
     rw[HTK.out,if_neg (by simp[hke];omega)];simp
    have HN:=Lib.hid hn
    clear hn hdd
    go_wp2_with (go_at_call 52;refine hw52.mono ?_;rintro e w3 ⟨rfl,rfl⟩)
    go_quiet ((go_at_call 96;exact Calls.quiet_of_same (isExpr_any _ _)))
    go_wp2
    all_goals rw[<-HY.out,<-HQ.out]
    all_goals refine stand_tail ((H.out.shm.drewN nq).setWants (l:=rest) HG.out (zT.kept ?_ fun _ _ _ _=>rfl)) (by simp[go_sem,cN0,hNg]) (by simp[go_sem,cN1,hNg]) H.out.nr H.out.ng (set_depth (g':={g with wants:=rest}) HI.out.depth HG.out rfl) ((by simp;omega)) HN.out HF.out (H.out.ap.trans (((Ap.refl _).drewN nq).set (a:=⟨gb,_,none⟩) (.inr rfl) _)) _ _ _ _ _ _ _ _ _ _ _ _ _ _ _ _ _ _ _ _ _ _ _ _ _ _ _ _ _ _ _ _ _ _ _ _ _ _ _ _ _ _ _ _ _ _ _ _ _ _ _ _ _ _ _ _ _ _ _ _ _ _ _ _ _ _ _ _ _ _ _ _ _ _ _ _ _ _ _ _ _ _ _ _ _ _ _ _ _ _ _ _ _ _ _ _ _ _ _ _ _ _ _ _ _ _ _ _ _ _ _ _ _ _ _ _ _ _ _ _ _ _ _ _ _ _ _ _ _ _ _ _ _ _ _ _ _ _ _ _ _ _ _ _ _ _ _ _ _ _ _ _ _ _ _ _ _ _ _ _ _ _ _ _ _ _ _ _ _ _ _ _ _ _ _ _ _ _ _ _ _ _ _ _ _ _ _ _ _ _ _ _ _ _ _ _ _ _ _ _ _ _ _ _ _ _ _ _ _ _ _ _ _ _ _ _ _ _ _ _
    all_goals first|exact HWT.out|exact HWT2.out (by omega)
  ·have hx0b:(x==0)=false:=by simp[hx0]
   by_cases hx1:x=1
   ·subst hx1
    by_cases hk9:kind=9
    ·have hk1:(kind==9)=true:=by simp[hk9]
     have hk2:(kind !=9)=false:=by simp[hk9]
     have hn:takeF o heads ⟨depth,kind,name,num,op,at_⟩=some ((o.set u {g with wants:=rest}).set u { {g with wants:=rest} with blocks:=g.blocks+1}):=by
      rw[HTK.out,if_neg (by simp[hk9];omega)];simp
     have HN:=Lib.hid hn
     clear hn hdd hx0 hk9
     go_wp2_with (go_at_call 52;refine hw52.mono ?_;rintro e w3 ⟨rfl,rfl⟩)
     go_quiet ((go_at_call 96;exact Calls.quiet_of_same (isExpr_any _ _)))
     go_wp2
     all_goals rw[<-HY.out,<-HQ.out]
     all_goals refine stand_tail (((H.out.shm.drewN nq).setWants (l:=rest) HG.out (zT.kept ?_ fun _ _ _ _=>rfl)).setBlocks (g:={g with wants:=rest}) (List.getElem?_set_self hul) (g.blocks+1)) (by simp[go_sem,cN0,hNg]) (by simp[go_sem,cN1,hNg]) H.out.nr H.out.ng (set_depth (u:=u) (g:={g with wants:=rest}) (set_depth (g':={g with wants:=rest}) HI.out.depth HG.out rfl) (List.getElem?_set_self hul) rfl) ((by simp;omega)) HN.out HF.out (H.out.ap.trans ((((Ap.refl _).drewN nq).set (a:=⟨gb,u*4+2,none⟩) (.inr rfl) _).set (a:=⟨gb,u*4+3,none⟩) (.inr rfl) _)) _ _ _ _ _ _ _ _ _ _ _ _ _ _ _ _ _ _ _ _ _ _ _ _ _ _ _ _ _ _ _ _ _ _ _ _ _ _ _ _ _ _ _ _ _ _ _ _ _ _ _ _ _ _ _ _ _ _ _ _ _ _ _ _ _ _ _ _ _ _ _ _ _ _ _ _ _ _ _ _ _ _ _ _ _ _ _ _ _ _ _ _ _ _ _ _ _ _ _ _ _ _ _ _ _ _ _ _ _ _ _ _ _ _ _ _ _ _ _ _ _ _ _ _ _ _ _ _ _ _ _ _ _ _ _ _ _ _ _ _ _ _ _ _ _ _ _ _ _ _ _ _ _ _ _ _ _ _ _ _ _ _ _ _ _ _ _ _ _ _ _ _ _ _ _ _ _ _ _ _ _ _ _ _ _ _ _ _ _ _ _ _ _ _ _ _ _ _ _ _ _ _ _ _ _ _ _ _ _ _ _ _ _ _ _ _ _ _ _ _
     all_goals first|exact HWT.out|exact HWT2.out (by omega)
    ·have hk1:(kind==9)=false:=by simp[hk9]
     have hk2:(kind !=9)=true:=by simp[hk9]
     have hn:takeF o heads ⟨depth,kind,name,num,op,at_⟩=none:=by rw[HTK.out,if_pos (.inr (.inr ⟨rfl,hk9⟩))]
     have HN:=Lib.hid hn
     clear hn hdd hx0 hk9
     go_wp2_with (go_at_call 52;refine hw52.mono ?_;rintro e w3 ⟨rfl,rfl⟩)
     go_quiet ((go_at_call 96;exact Calls.quiet_of_same (isExpr_any _ _)))
     go_wp2
     rw[<-HQ.out]
     exact⟨rfl,_,res51 _ false rfl _,stand_refuse HN.out (H.out.ap.trans ((Ap.refl _).drewN _))⟩
   ·have hx1b:(x==1)=false:=by simp[hx1]
    have hn:takeF o heads ⟨depth,kind,name,num,op,at_⟩=some (o.set u {g with wants:=rest}):=by
     rw[HTK.out,if_neg (by simp[hx0,hx1];omega)];simp[hx1]
    have HN:=Lib.hid hn
    clear hn hdd hx0 hx1
    go_wp2_with (go_at_call 52;refine hw52.mono ?_;rintro e w3 ⟨rfl,rfl⟩)
    go_quiet ((go_at_call 96;exact Calls.quiet_of_same (isExpr_any _ _)))
    go_wp2
    all_goals rw[<-HY.out,<-HQ.out]
    all_goals refine stand_tail ((H.out.shm.drewN nq).setWants (l:=rest) HG.out (zT.kept ?_ fun _ _ _ _=>rfl)) (by simp[go_sem,cN0,hNg]) (by simp[go_sem,cN1,hNg]) H.out.nr H.out.ng (set_depth (g':={g with wants:=rest}) HI.out.depth HG.out rfl) ((by simp;omega)) HN.out HF.out (H.out.ap.trans (((Ap.refl _).drewN nq).set (a:=⟨gb,_,none⟩) (.inr rfl) _)) _ _ _ _ _ _ _ _ _ _ _ _ _ _ _ _ _ _ _ _ _ _ _ _ _ _ _ _ _ _ _ _ _ _ _ _ _ _ _ _ _ _ _ _ _ _ _ _ _ _ _ _ _ _ _ _ _ _ _ _ _ _ _ _ _ _ _ _ _ _ _ _ _ _ _ _ _ _ _ _ _ _ _ _ _ _ _ _ _ _ _ _ _ _ _ _ _ _ _ _ _ _ _ _ _ _ _ _ _ _ _ _ _ _ _ _ _ _ _ _ _ _ _ _ _ _ _ _ _ _ _ _ _ _ _ _ _ _ _ _ _ _ _ _ _ _ _ _ _ _ _ _ _ _ _ _ _ _ _ _ _ _ _ _ _ _ _ _ _ _ _ _ _ _ _ _ _ _ _ _ _ _ _ _ _ _ _ _ _ _ _ _ _ _ _ _ _ _ _ _ _ _ _ _ _ _ _ _ _ _ _ _ _ _ _ _ _ _ _ _
    all_goals first|exact HWT.out|exact HWT2.out (by omega)
 ·have hd1:(depth==(u:Int)+1+1)=false:=by simp[hd]
  have hd2:(depth !=(u:Int)+1+1)=true:=by simp[hd]
  have hn:takeF o heads ⟨depth,kind,name,num,op,at_⟩=none:=by rw[HTK.out,if_pos (.inl hd)]
  have HN:=Lib.hid hn
  clear hd hn
  go_wp2_with (go_at_call 52;refine hw52.mono ?_;rintro e w3 ⟨rfl,rfl⟩)
  go_quiet ((go_at_call 96;exact Calls.quiet_of_same (isExpr_any _ _)))
  go_wp2
  rw[<-HQ.out]
  exact⟨rfl,_,res51 _ false rfl _,stand_refuse HN.out (H.out.ap.trans ((Ap.refl _).drewN _))⟩
def takeN(o:List Hold)(heads:Bool)(n:Nd)(hx:Option Nat):Option (List Hold):=
 if n.kind=0\/n.kind=1 then (if n.depth≠1\/heads=false then none else some o)
 else if yt n.kind then
  if n.depth=1 then some o
  else match hx with
   |some u=>match o[u]? with
    |some h=>if h.kind=9 then some o else none
    |none=>none
   |none=>none
 else if n.kind=9 then
  match hx with
  |some u=>match o[u]? with
   |some h=>if h.kind=7/\h.blocks=1 then some (o.set u {h with blocks:=h.blocks+1}) else none
   |none=>none
  |none=>none
 else none
theorem zda{o:List Hold}(h:xX o=none)(heads:Bool)(n:Nd):takeF o heads n=takeN o heads n (heldIx o (IntKind.wrap .i64 (n.depth-1))):=by
 unfold takeF takeN
 simp only[h]
 first|done|rfl
theorem zdd{B r gb N:Nat}{o:List Hold}{heads:Bool}{st:List Opn}{begun:Bool}{depth kind:Int}{name:ByteArray}{num op at_:Int}{w w2:World}(hI:ShI o heads st begun)(ho:o.length<=24)(hf:fieldsB ⟨depth,kind,name,num,op,at_⟩=true)(hH:Hd w w2 B r gb N o heads depth kind)(hwi:xX o=none):st3.wp Tryz.prog (Exit.then (zG.wp Tryz.prog (bodyPost Tryz.prog Tryz.f51 (StandPost w B r gb o heads ⟨depth,kind,name,num,op,at_⟩))) (bodyPost Tryz.prog Tryz.f51 (StandPost w B r gb o heads ⟨depth,kind,name,num,op,at_⟩))) (F3 r N depth kind name num op at_) w2:=by
 have H:=Lib.hid hH
 have HI:=Lib.hid hI
 have HF:=Lib.hid hf
 have cN0:=hH.c0
 have cN1:=hH.c1
 have hNr:=hH.nr
 have hNg:=hH.ng
 have hng:=hH.shm.ne
 have hw52:=kx w2 hH.shm
 clear hH hI hf
 unfold F3
 generalize hQ:bodyPost Tryz.prog Tryz.f51 (StandPost w B r gb o heads ⟨depth,kind,name,num,op,at_⟩)=Q
 have HQ:=Lib.hid hQ
 clear hQ
 generalize hY:zG.wp Tryz.prog Q=Y
 have HY:=Lib.hid hY
 clear hY
 simp only[st3,st0,seqL,seqR,Tryz.f51,Option.getD_some]
 have e0:ixV none= -1:=rfl
 rw[hwi,e0] at hw52
 clear e0
 have c0:=H.out.shm.c0
 have c1:=H.out.shm.c1
 have hH:∀w',ShM w' B r gb o heads->Calls Tryz.prog 97 #[.pointer (some ⟨r,0,none⟩), .int .i64 (wrap64 (depth-1))] w' fun e w''=>e= .returned (.int .i64 (ixV (heldIx o (wrap64 (depth-1)))))/\w''=w':=fun w' h=>zg5 _ w' h
 have HT:Hid (takeF o heads ⟨depth,kind,name,num,op,at_⟩=takeN o heads ⟨depth,kind,name,num,op,at_⟩ (heldIx o (wrap64 (depth-1)))):=by
  have h:=zda hwi heads ⟨depth,kind,name,num,op,at_⟩
  rw[Go.IntWalk.i64_left] at h
  exact h
 have hHX:∀u,heldIx o (wrap64 (depth-1))=some u->u<o.length:=fun u hu=>lastIx_lt hu
 generalize heldIx o (wrap64 (depth-1))=hx at hH HT hHX
 clear hwi
 by_cases k01:kind=0\/kind=1
 ·by_cases hd:depth=1
  ·have hd1:(depth==1)=true:=by simp[hd]
   have hd2:(depth !=1)=false:=by simp[hd]
   cases heads with
   |true=>
    have hn:takeF o true ⟨depth,kind,name,num,op,at_⟩=some o:=by rw[HT.out];unfold takeN;rw[if_pos k01,if_neg (by simp[hd])]
    have HN:=Lib.hid hn
    clear hn HT hd
    rcases k01 with rfl|rfl
    ·go_wp2_with (first|(go_at_call 52;refine hw52.mono ?_;rintro e w3 ⟨rfl,rfl⟩)|(go_at_call 97;refine(hH _ H.out.shm).mono ?_;rintro e w3 ⟨rfl,rfl⟩)|(go_at_call 98;refine(isStmt_any _ _).mono ?_;rintro e w3 ⟨rfl,rfl⟩))
     rw[<-HY.out,<-HQ.out];exact stand_tail (H.out.shm) cN0 cN1 H.out.nr H.out.ng (HI.out.depth) (ho) HN.out HF.out (H.out.ap) _ _ _ _ _ _ _ _ _ _ _ _ _ _ _ _ _ _ _ _ _ _ _ _ _ _ _ _ _ _ _ _ _ _ _ _ _ _ _ _ _ _ _ _ _ _ _ _ _ _ _ _ _ _ _ _ _ _ _ _ _ _ _ _ _ _ _ _ _ _ _ _ _ _ _ _ _ _ _ _ _ _ _ _ _ _ _ _ _ _ _ _ _ _ _ _ _ _ _ _ _ _ _ _ _ _ _ _ _ _ _ _ _ _ _ _ _ _ _ _ _ _ _ _ _ _ _ _ _ _ _ _ _ _ _ _ _ _ _ _ _ _ _ _ _ _ _ _ _ _ _ _ _ _ _ _ _ _ _ _ _ _ _ _ _ _ _ _ _ _ _ _ _ _ _ _ _ _ _ _ _ _ _ _ _ _ _ _ _ _ _ _ _ _ _ _ _ _ _ _ _ _ _ _ _ _ _ _ _ _ _ _ _ _ _ _ _ _ _ _
    ·go_wp2_with (first|(go_at_call 52;refine hw52.mono ?_;rintro e w3 ⟨rfl,rfl⟩)|(go_at_call 97;refine(hH _ H.out.shm).mono ?_;rintro e w3 ⟨rfl,rfl⟩)|(go_at_call 98;refine(isStmt_any _ _).mono ?_;rintro e w3 ⟨rfl,rfl⟩))
     rw[<-HY.out,<-HQ.out];exact stand_tail (H.out.shm) cN0 cN1 H.out.nr H.out.ng (HI.out.depth) (ho) HN.out HF.out (H.out.ap) _ _ _ _ _ _ _ _ _ _ _ _ _ _ _ _ _ _ _ _ _ _ _ _ _ _ _ _ _ _ _ _ _ _ _ _ _ _ _ _ _ _ _ _ _ _ _ _ _ _ _ _ _ _ _ _ _ _ _ _ _ _ _ _ _ _ _ _ _ _ _ _ _ _ _ _ _ _ _ _ _ _ _ _ _ _ _ _ _ _ _ _ _ _ _ _ _ _ _ _ _ _ _ _ _ _ _ _ _ _ _ _ _ _ _ _ _ _ _ _ _ _ _ _ _ _ _ _ _ _ _ _ _ _ _ _ _ _ _ _ _ _ _ _ _ _ _ _ _ _ _ _ _ _ _ _ _ _ _ _ _ _ _ _ _ _ _ _ _ _ _ _ _ _ _ _ _ _ _ _ _ _ _ _ _ _ _ _ _ _ _ _ _ _ _ _ _ _ _ _ _ _ _ _ _ _ _ _ _ _ _ _ _ _ _ _ _ _ _ _
   |false=>
    have hn:takeF o false ⟨depth,kind,name,num,op,at_⟩=none:=by rw[HT.out];unfold takeN;rw[if_pos k01,if_pos (by simp)]
    have HN:=Lib.hid hn
    clear hn HT hd
    rcases k01 with rfl|rfl
    ·go_wp2_with (first|(go_at_call 52;refine hw52.mono ?_;rintro e w3 ⟨rfl,rfl⟩)|(go_at_call 97;refine(hH _ H.out.shm).mono ?_;rintro e w3 ⟨rfl,rfl⟩)|(go_at_call 98;refine(isStmt_any _ _).mono ?_;rintro e w3 ⟨rfl,rfl⟩))
     rw[<-HQ.out];exact⟨rfl,_,res51 _ false rfl _,stand_refuse HN.out H.out.ap⟩
    ·go_wp2_with (first|(go_at_call 52;refine hw52.mono ?_;rintro e w3 ⟨rfl,rfl⟩)|(go_at_call 97;refine(hH _ H.out.shm).mono ?_;rintro e w3 ⟨rfl,rfl⟩)|(go_at_call 98;refine(isStmt_any _ _).mono ?_;rintro e w3 ⟨rfl,rfl⟩))
     rw[<-HQ.out];exact⟨rfl,_,res51 _ false rfl _,stand_refuse HN.out H.out.ap⟩
  ·have hn:takeF o heads ⟨depth,kind,name,num,op,at_⟩=none:=by rw[HT.out];unfold takeN;rw[if_pos k01,if_pos (.inl hd)]
   have HN:=Lib.hid hn
   have hd1:(depth==1)=false:=by simp[hd]
   have hd2:(depth !=1)=true:=by simp[hd]
   clear hn HT hd
   rcases k01 with rfl|rfl
   ·go_wp2_with (first|(go_at_call 52;refine hw52.mono ?_;rintro e w3 ⟨rfl,rfl⟩)|(go_at_call 97;refine(hH _ H.out.shm).mono ?_;rintro e w3 ⟨rfl,rfl⟩)|(go_at_call 98;refine(isStmt_any _ _).mono ?_;rintro e w3 ⟨rfl,rfl⟩))
    rw[<-HQ.out];exact⟨rfl,_,res51 _ false rfl _,stand_refuse HN.out H.out.ap⟩
   ·go_wp2_with (first|(go_at_call 52;refine hw52.mono ?_;rintro e w3 ⟨rfl,rfl⟩)|(go_at_call 97;refine(hH _ H.out.shm).mono ?_;rintro e w3 ⟨rfl,rfl⟩)|(go_at_call 98;refine(isStmt_any _ _).mono ?_;rintro e w3 ⟨rfl,rfl⟩))
    rw[<-HQ.out];exact⟨rfl,_,res51 _ false rfl _,stand_refuse HN.out H.out.ap⟩
 ·have k0:(kind==0)=false:=by simp;omega
  have k1:(kind==1)=false:=by simp;omega
  cases hsb:yt kind with
  |true=>
   have hs2:2<=kind/\kind<=8:=by unfold yt at hsb;simpa using hsb
   have e0:∀hx',takeN o heads ⟨depth,kind,name,num,op,at_⟩ hx'=(if depth=1 then some o else match hx' with
    |some u=>match o[u]? with
     |some h=>if h.kind=9 then some o else none
     |none=>none
    |none=>none):=fun hx'=>by unfold takeN;rw[if_neg k01,if_pos hsb]
   by_cases hd:depth=1
   ·have hd1:(depth==1)=true:=by simp[hd]
    have hd2:(depth !=1)=false:=by simp[hd]
    have hn:takeF o heads ⟨depth,kind,name,num,op,at_⟩=some o:=by rw[HT.out,e0,if_pos hd]
    have HN:=Lib.hid hn
    clear hn HT e0 k01 hs2 hHX hd
    go_wp2_with (first|(go_at_call 52;refine hw52.mono ?_;rintro e w3 ⟨rfl,rfl⟩)|(go_at_call 97;refine(hH _ H.out.shm).mono ?_;rintro e w3 ⟨rfl,rfl⟩)|(go_at_call 98;refine(isStmt_any _ _).mono ?_;rintro e w3 ⟨rfl,rfl⟩))
    rw[<-HY.out,<-HQ.out];exact stand_tail (H.out.shm) cN0 cN1 H.out.nr H.out.ng (HI.out.depth) (ho) HN.out HF.out (H.out.ap) _ _ _ _ _ _ _ _ _ _ _ _ _ _ _ _ _ _ _ _ _ _ _ _ _ _ _ _ _ _ _ _ _ _ _ _ _ _ _ _ _ _ _ _ _ _ _ _ _ _ _ _ _ _ _ _ _ _ _ _ _ _ _ _ _ _ _ _ _ _ _ _ _ _ _ _ _ _ _ _ _ _ _ _ _ _ _ _ _ _ _ _ _ _ _ _ _ _ _ _ _ _ _ _ _ _ _ _ _ _ _ _ _ _ _ _ _ _ _ _ _ _ _ _ _ _ _ _ _ _ _ _ _ _ _ _ _ _ _ _ _ _ _ _ _ _ _ _ _ _ _ _ _ _ _ _ _ _ _ _ _ _ _ _ _ _ _ _ _ _ _ _ _ _ _ _ _ _ _ _ _ _ _ _ _ _ _ _ _ _ _ _ _ _ _ _ _ _ _ _ _ _ _ _ _ _ _ _ _ _ _ _ _ _ _ _ _ _ _ _
   ·have hd1:(depth==1)=false:=by simp[hd]
    have hd2:(depth !=1)=true:=by simp[hd]
    cases hx with
    |none=>
     have hn:takeF o heads ⟨depth,kind,name,num,op,at_⟩=none:=by rw[HT.out,e0,if_neg hd]
     have HN:=Lib.hid hn
     have e1:ixV none= -1:=rfl
     rw[e1] at hH
     clear hn HT e0 k01 hs2 hHX hd
     go_wp2_with (first|(go_at_call 52;refine hw52.mono ?_;rintro e w3 ⟨rfl,rfl⟩)|(go_at_call 97;refine(hH _ H.out.shm).mono ?_;rintro e w3 ⟨rfl,rfl⟩)|(go_at_call 98;refine(isStmt_any _ _).mono ?_;rintro e w3 ⟨rfl,rfl⟩))
     rw[<-HQ.out];exact⟨rfl,_,res51 _ false rfl _,stand_refuse HN.out H.out.ap⟩
    |some u=>
     have e1:ixV (some u)=(u:Int):=rfl
     rw[e1] at hH
     have hul:=hHX u rfl
     obtain⟨g,hg⟩:∃g,o[u]? =some g:=⟨_,List.getElem?_eq_getElem hul⟩
     have q1:=H.out.shm.kind hg
     have hu0:(0:Int)<=u:=by omega
     have hu1:((u:Int)<0)=False:=by apply eq_false;omega
     by_cases hk9:g.kind=9
     ·have hn:takeF o heads ⟨depth,kind,name,num,op,at_⟩=some o:=by rw[HT.out,e0,if_neg hd];simp only[hg,hk9,if_true]
      have HN:=Lib.hid hn
      have hg1:(g.kind==9)=true:=by simp[hk9]
      have hg2:(g.kind !=9)=false:=by simp[hk9]
      clear hn HT e0 k01 hs2 hHX hd e1 hg hk9
      go_wp2_with (first|(go_at_call 52;refine hw52.mono ?_;rintro e w3 ⟨rfl,rfl⟩)|(go_at_call 97;refine(hH _ H.out.shm).mono ?_;rintro e w3 ⟨rfl,rfl⟩)|(go_at_call 98;refine(isStmt_any _ _).mono ?_;rintro e w3 ⟨rfl,rfl⟩))
      rw[<-HY.out,<-HQ.out];exact stand_tail (H.out.shm) cN0 cN1 H.out.nr H.out.ng (HI.out.depth) (ho) HN.out HF.out (H.out.ap) _ _ _ _ _ _ _ _ _ _ _ _ _ _ _ _ _ _ _ _ _ _ _ _ _ _ _ _ _ _ _ _ _ _ _ _ _ _ _ _ _ _ _ _ _ _ _ _ _ _ _ _ _ _ _ _ _ _ _ _ _ _ _ _ _ _ _ _ _ _ _ _ _ _ _ _ _ _ _ _ _ _ _ _ _ _ _ _ _ _ _ _ _ _ _ _ _ _ _ _ _ _ _ _ _ _ _ _ _ _ _ _ _ _ _ _ _ _ _ _ _ _ _ _ _ _ _ _ _ _ _ _ _ _ _ _ _ _ _ _ _ _ _ _ _ _ _ _ _ _ _ _ _ _ _ _ _ _ _ _ _ _ _ _ _ _ _ _ _ _ _ _ _ _ _ _ _ _ _ _ _ _ _ _ _ _ _ _ _ _ _ _ _ _ _ _ _ _ _ _ _ _ _ _ _ _ _ _ _ _ _ _ _ _ _ _ _ _ _ _
     ·have hn:takeF o heads ⟨depth,kind,name,num,op,at_⟩=none:=by rw[HT.out,e0,if_neg hd];simp only[hg,hk9,if_false]
      have HN:=Lib.hid hn
      have hg1:(g.kind==9)=false:=by simp[hk9]
      have hg2:(g.kind !=9)=true:=by simp[hk9]
      clear hn HT e0 k01 hs2 hHX hd e1 hg hk9
      go_wp2_with (first|(go_at_call 52;refine hw52.mono ?_;rintro e w3 ⟨rfl,rfl⟩)|(go_at_call 97;refine(hH _ H.out.shm).mono ?_;rintro e w3 ⟨rfl,rfl⟩)|(go_at_call 98;refine(isStmt_any _ _).mono ?_;rintro e w3 ⟨rfl,rfl⟩))
      rw[<-HQ.out];exact⟨rfl,_,res51 _ false rfl _,stand_refuse HN.out H.out.ap⟩
  |false=>
   by_cases hk9:kind=9
   ·subst hk9
    have e0:∀hx',takeN o heads ⟨depth,9,name,num,op,at_⟩ hx'=(match hx' with
     |some u=>match o[u]? with
      |some h=>if h.kind=7/\h.blocks=1 then some (o.set u {h with blocks:=h.blocks+1}) else none
      |none=>none
     |none=>none):=fun hx'=>by unfold takeN;rw[if_neg k01,if_neg (by simp[hsb]),if_pos rfl]
    cases hx with
    |none=>
     have hn:takeF o heads ⟨depth,9,name,num,op,at_⟩=none:=by rw[HT.out,e0]
     have HN:=Lib.hid hn
     have e1:ixV none= -1:=rfl
     rw[e1] at hH
     clear hn HT e0 k01 hHX
     go_wp2_with (first|(go_at_call 52;refine hw52.mono ?_;rintro e w3 ⟨rfl,rfl⟩)|(go_at_call 97;refine(hH _ H.out.shm).mono ?_;rintro e w3 ⟨rfl,rfl⟩)|(go_at_call 98;refine(isStmt_any _ _).mono ?_;rintro e w3 ⟨rfl,rfl⟩))
     rw[<-HQ.out];exact⟨rfl,_,res51 _ false rfl _,stand_refuse HN.out H.out.ap⟩
    |some u=>
     have e1:ixV (some u)=(u:Int):=rfl
     rw[e1] at hH
     have hul:=hHX u rfl
     obtain⟨g,hg⟩:∃g,o[u]? =some g:=⟨_,List.getElem?_eq_getElem hul⟩
     have q1:=H.out.shm.kind hg
     have q3:=H.out.shm.blocks hg
     have hgs:=HI.out.small u g hg
     have f3:=H.out.shm.fr (u*4+3)
     have hu0:(0:Int)<=u:=by omega
     have hu1:((u:Int)<0)=False:=by apply eq_false;omega
     have HG:=Lib.hid hg
     by_cases hk7:g.kind=7
     ·have hg1:(g.kind==7)=true:=by simp[hk7]
      have hg2:(g.kind !=7)=false:=by simp[hk7]
      by_cases hb1:g.blocks=1
      ·have hn:takeF o heads ⟨depth,9,name,num,op,at_⟩=some (o.set u {g with blocks:=g.blocks+1}):=by rw[HT.out,e0];simp only[hg,hk7,hb1,and_self,if_true]
       have HN:=Lib.hid hn
       have hg3:(g.blocks==1)=true:=by simp[hb1]
       have hg4:(g.blocks !=1)=false:=by simp[hb1]
       clear hn HT e0 k01 hHX e1 hg hk7 hb1
       go_wp2_with (first|(go_at_call 52;refine hw52.mono ?_;rintro e w3 ⟨rfl,rfl⟩)|(go_at_call 97;refine(hH _ H.out.shm).mono ?_;rintro e w3 ⟨rfl,rfl⟩)|(go_at_call 98;refine(isStmt_any _ _).mono ?_;rintro e w3 ⟨rfl,rfl⟩))
       rw[<-HY.out,<-HQ.out];exact stand_tail (H.out.shm.setBlocks HG.out (g.blocks+1)) (by simp[go_sem,cN0,hNg]) (by simp[go_sem,cN1,hNg]) H.out.nr H.out.ng (set_depth (g':={g with blocks:=g.blocks+1}) HI.out.depth HG.out rfl) ((by simp;omega)) HN.out HF.out (H.out.ap.trans ((Ap.refl _).set (a:=⟨gb,_,none⟩) (.inr rfl) _)) _ _ _ _ _ _ _ _ _ _ _ _ _ _ _ _ _ _ _ _ _ _ _ _ _ _ _ _ _ _ _ _ _ _ _ _ _ _ _ _ _ _ _ _ _ _ _ _ _ _ _ _ _ _ _ _ _ _ _ _ _ _ _ _ _ _ _ _ _ _ _ _ _ _ _ _ _ _ _ _ _ _ _ _ _ _ _ _ _ _ _ _ _ _ _ _ _ _ _ _ _ _ _ _ _ _ _ _ _ _ _ _ _ _ _ _ _ _ _ _ _ _ _ _ _ _ _ _ _ _ _ _ _ _ _ _ _ _ _ _ _ _ _ _ _ _ _ _ _ _ _ _ _ _ _ _ _ _ _ _ _ _ _ _ _ _ _ _ _ _ _ _ _ _ _ _ _ _ _ _ _ _ _ _ _ _ _ _ _ _ _ _ _ _ _ _ _ _ _ _ _ _ _ _ _ _ _ _ _ _ _ _ _ _ _ _ _ _ _ _
      ·have hn:takeF o heads ⟨depth,9,name,num,op,at_⟩=none:=by rw[HT.out,e0];simp only[hg,hb1,and_false,if_false]
       have HN:=Lib.hid hn
       have hg3:(g.blocks==1)=false:=by simp[hb1]
       have hg4:(g.blocks !=1)=true:=by simp[hb1]
       clear hn HT e0 k01 hHX e1 hg hk7 hb1
       go_wp2_with (first|(go_at_call 52;refine hw52.mono ?_;rintro e w3 ⟨rfl,rfl⟩)|(go_at_call 97;refine(hH _ H.out.shm).mono ?_;rintro e w3 ⟨rfl,rfl⟩)|(go_at_call 98;refine(isStmt_any _ _).mono ?_;rintro e w3 ⟨rfl,rfl⟩))
       rw[<-HQ.out];exact⟨rfl,_,res51 _ false rfl _,stand_refuse HN.out H.out.ap⟩
     ·have hn:takeF o heads ⟨depth,9,name,num,op,at_⟩=none:=by rw[HT.out,e0];simp only[hg,hk7,false_and,if_false]
      have HN:=Lib.hid hn
      have hg1:(g.kind==7)=false:=by simp[hk7]
      have hg2:(g.kind !=7)=true:=by simp[hk7]
      clear hn HT e0 k01 hHX e1 hg hk7
      go_wp2_with (first|(go_at_call 52;refine hw52.mono ?_;rintro e w3 ⟨rfl,rfl⟩)|(go_at_call 97;refine(hH _ H.out.shm).mono ?_;rintro e w3 ⟨rfl,rfl⟩)|(go_at_call 98;refine(isStmt_any _ _).mono ?_;rintro e w3 ⟨rfl,rfl⟩))
      rw[<-HQ.out];exact⟨rfl,_,res51 _ false rfl _,stand_refuse HN.out H.out.ap⟩
   ·have hn:takeF o heads ⟨depth,kind,name,num,op,at_⟩=none:=by rw[HT.out];unfold takeN;rw[if_neg k01,if_neg (by simp[hsb]),if_neg hk9]
    have HN:=Lib.hid hn
    have hg1:(kind==9)=false:=by simp[hk9]
    have hg2:(kind !=9)=true:=by simp[hk9]
    clear hn HT k01 hHX hk9
    go_wp2_with (first|(go_at_call 52;refine hw52.mono ?_;rintro e w3 ⟨rfl,rfl⟩)|(go_at_call 97;refine(hH _ H.out.shm).mono ?_;rintro e w3 ⟨rfl,rfl⟩)|(go_at_call 98;refine(isStmt_any _ _).mono ?_;rintro e w3 ⟨rfl,rfl⟩))
    rw[<-HQ.out];exact⟨rfl,_,res51 _ false rfl _,stand_refuse HN.out H.out.ap⟩
theorem stands_any{B r gb:Nat}{o:List Hold}{heads:Bool}(n:Nd)(hs:n.name.size<=140737488355328)(w:World)(h:ShM w B r gb o heads){st:List Opn}{begun:Bool}(hI:ShI o heads st begun)(ho:o.length<=24):
 Calls Tryz.prog 51 #[.pointer (some ⟨r,0,none⟩), .agg n.cells.toArray] w (StandPost w B r gb o heads n):=by
 obtain⟨depth,kind,name,num,op,at_⟩:=n
 refine zde depth kind name num op at_ hs w h fun hf w2 N hH=>?_
 cases hwi:xX o with
 |some u=>exact zbK hI ho hf hH hwi
 |none=>exact zdd hI ho hf hH hwi
def zA(w:World)(v:Value)(l:List Nd):Prop:=
 ∃b cap,v= .slice b l.length cap/\l.length<=cap/\(l≠[]->∃g off,b=some ⟨g,off,none⟩/\∀(j:Nat) (n:Nd),l[j]? =some n->∀(k:Nat) (c:Value),n.cells[k]? =some c->w.cell? ⟨g,off+j*6+k,none⟩=some c)
theorem zA.kin{w w':World}{v:Value}{l:List Nd}(h:zA w v l)(k:Kin w w'):zA w' v l:=by
 obtain⟨b,cap,h1,h2,h3⟩:=h
 refine⟨b,cap,h1,h2,fun hl=>?_⟩
 obtain⟨g,off,h4,h5⟩:=h3 hl
 refine⟨g,off,h4,fun j n hj x c hc=>?_⟩
 have:=h5 j n hj x c hc
 exact(k.cell (World.block_lt_of_cell? w ⟨g,_,none⟩ this)).trans this
theorem ShM.start{w:World}{c:Array Value}{B:Nat}(hc:c.size=104)(hB:B<=w.heap.size):ShM ((w.alloc (.cells c 157)).alloc (.cells #[.slice (some ⟨w.heap.size,0,none⟩) 0 26, .bool true] 100)) B (w.heap.size+1) w.heap.size [] true:=by
 have h1:=(World.rowIs_alloc w c 157 (fun i=>c[i]?.getD undef) fun i hi=>by simp[hi]).alloc (.cells #[.slice (some ⟨w.heap.size,0,none⟩) 0 26, .bool true] 100)
 have h2:=World.rowIs_alloc (w.alloc (.cells c 157)) #[.slice (some ⟨w.heap.size,0,none⟩) 0 26, .bool true] 100 (shF w.heap.size 0 true) (fun i hi=>by
  match i,hi with
  |0,_=>rfl
  |1,_=>rfl)
 rw[hc] at h1
 have hs:(w.alloc (.cells c 157)).heap.size=w.heap.size+1:=by simp
 rw[hs] at h2
 exact⟨h2,⟨_,h1,fun j h hj=>by simp at hj⟩,by simp,by omega,by omega,hB⟩
theorem zfm(w:World)(a b c d e f:Value):(w.alloc (.cells #[a,b,c,d,e,f] 50)).cell? ⟨w.heap.size,0,none⟩=some a:=by
 simp[go_sem]
theorem zjr:∃c:Array Value,c.size=104/\∀u:World,(Instr.makeSlice 98 (.int .i64 0) (.int .i64 26)).run Tryz.prog u= .ok (.slice (some ⟨u.heap.size,0,none⟩) 0 26) (u.alloc (.cells c 157)):=by
 obtain⟨ti,hi,hz0,hz1,hz2⟩:=info_parts zcM
 have h:=fun u:World=>run_make (P:=Tryz.prog) u 98 157 ti _ Tryz.underlying98 hi hz0 .i64 .i64 0 26 (by omega) (by omega) (by rw[hz2];decide) (by omega)
 refine⟨_,?_,h⟩
 rw[size_madeCells]
 show 26*ti.size=104
 rw[hz1]
theorem gS(l:List Nd)(hl:∀n∈l,n.name.size<=140737488355328/\ -9223372036854775808<=n.depth/\n.depth<=9223372036854775807)(hlen:l.length<=9223372036854775807)(v:Value)(w:World)(h:zA w v l):
 Calls Tryz.prog 18 #[v] w fun e w'=>e= .returned (.tuple #[.int .i64 (jq l).1, .int .i64 (jq l).2])/\Kin w w':=by
 have HL:=Lib.hid hl
 have HN:=Lib.hid h
 clear hl
 obtain⟨b,cap,rfl,hcap,hne⟩:=h
 have HNE:=Lib.hid hne
 clear hne
 by_cases hm:300<l.length
 ·have hs:jq l=(32,300):=by unfold jq;rw[if_pos hm]
  have hd:decide ((300:Int)<(l.length:Int))=true:=by simp;omega
  rw[hs]
  clear hs hm
  go_enter Tryz.func18,Tryz.ntmps18
  go_wp2
  go_ret2
  exact⟨rfl,Kin.refl _⟩
 ·have hs:jq l=jT [] true 0 l:=by unfold jq;rw[if_neg hm]
  have hd:decide ((300:Int)<(l.length:Int))=false:=by simp;omega
  rw[hs]
  obtain⟨c,hc,hmk⟩:=zjr
  have HM:=Lib.hid (ShM.start (w:=w) hc (Nat.le_refl _))
  have HK:=Lib.hid ((Kin.refl w).alloc (.cells c 157))
  generalize hR:jT [] true 0 l=R
  have HR:=Lib.hid hR
  clear hs hR
  go_enter Tryz.func18,Tryz.ntmps18
  go_wp2_with fail
  have h0:ShM ((w.alloc (.cells c 157)).alloc (.cells #[.slice (some ⟨w.heap.size,0,none⟩) 0 26, .bool true] 100)) w.heap.size (w.heap.size+1) w.heap.size [] true:=HM.out
  have k0:Kin w ((w.alloc (.cells c 157)).alloc (.cells #[.slice (some ⟨w.heap.size,0,none⟩) 0 26, .bool true] 100)):=HK.out.alloc _
  have HM0:=Lib.hid h0
  have HK0:=Lib.hid k0
  clear h0 k0 HM HK hmk hc
  generalize (w.alloc (.cells c 157)).alloc (.cells #[.slice (some ⟨w.heap.size,0,none⟩) 0 26, .bool true] 100)=W0 at HM0 HK0⊢
  obtain⟨R1,R2⟩:=R
  go_loopg [15] l.length (fun g x wq=>∃(k:Nat) (o:List Hold) (heads:Bool) (st:List Opn) (begun:Bool),x= .int .i64 k/\k<=l.length/\g=l.length-k/\ShM wq w.heap.size (w.heap.size+1) w.heap.size o heads/\ShI o heads st begun/\o.length<=24/\Ap (w.heap.size+1) w.heap.size W0 wq/\jT o heads k (l.drop k)=(R1,R2))
  case atStart=>exact⟨0,[],true,[],false,rfl,Nat.zero_le _,rfl,HM0.out,ShI.start,by decide,Ap.refl _,HR.out⟩
  case round=>
   obtain⟨k,o,heads,st,begun,rfl,hk,hg,hS,hI,ho,hA,hG⟩:=hrel
   have HS:=Lib.hid hS
   have HI:=Lib.hid hI
   have HA:=Lib.hid hA
   have HG:=Lib.hid hG
   have HGG:=Lib.hid hg
   have HO:=Lib.hid ho
   clear hS hI hA hG hg ho
   have kin:∀w':World,Ap (w.heap.size+1) w.heap.size wr w'->Kin w w':=fun w' h=>by
    have a:=HA.out.trans h
    have q:=HK0.out
    have qs:=q.size
    exact⟨a.os.trans q.os,a.out.trans q.out,Nat.le_trans q.size a.size,fun j hj=>(a.block j (by omega) (by omega) (by omega)).trans (q.block j hj)⟩
   have KIN:=Lib.hid kin
   clear kin
   by_cases hlk:k<l.length
   ·obtain⟨⟨depth,kind,name,num,op,at_⟩,hu⟩:∃u,l[k]? =some u:=⟨_,List.getElem?_eq_getElem hlk⟩
    obtain⟨gb,off,rfl,hcell⟩:=HNE.out (by rintro rfl;simp at hlk)
    have cells:∀(x:Nat) (v:Value),(Nd.mk depth kind name num op at_).cells[x]? =some v->wr.cell? ⟨gb,off+k*6+x,none⟩=some v:=fun x v hv=>by
     have:=hcell k _ hu x v hv
     have hb:=World.block_lt_of_cell? w _ this
     have h2:=HK0.out.cell (n:=gb) (o:=off+k*6+x) hb
     have hbz:gb<w.heap.size:=hb
     have hs0:=HK0.out.size
     exact((HA.out.cell (by omega) (by omega) (by omega)).trans h2).trans this
    have r0:=cells 0 _ rfl
    have r1:=cells 1 _ rfl
    have r2:=cells 2 _ rfl
    have r3:=cells 3 _ rfl
    have r4:=cells 4 _ rfl
    have r5:=cells 5 _ rfl
    simp only[Nat.add_zero] at r0
    have hul:=HL.out _ (List.mem_of_getElem? hu)
    have hdrop:l.drop k=⟨depth,kind,name,num,op,at_⟩::l.drop (k+1):=by
     rw[List.drop_eq_getElem_cons hlk]
     rw[List.getElem?_eq_getElem hlk] at hu
     rw[Option.some.inj hu]
    have HC:=Lib.hid hcell
    have HU:=Lib.hid hul
    have HDR:=Lib.hid hdrop
    clear cells hcell hu hul hdrop
    have hAl:Ap (w.heap.size+1) w.heap.size wr (wr.alloc (.cells #[.int .i64 depth, .int .i64 kind, .string name, .int .i64 num, .int .i64 op, .int .i64 at_] 50)):=Ap.of_kin ((Kin.refl _).alloc _)
    have hst:=stands_any ⟨depth,kind,name,num,op,at_⟩ HU.out.1 _ (HS.out.kin ((Kin.refl wr).alloc (.cells #[.int .i64 depth, .int .i64 kind, .string name, .int .i64 num, .int .i64 op, .int .i64 at_] 50))) HI.out HO.out
    have hsm:=zdc HI.out HO.out ⟨depth,kind,name,num,op,at_⟩ HU.out.2.1 HU.out.2.2
    have hG:=HG.out
    rw[HDR.out] at hG
    unfold jT at hG
    unfold StandPost at hst
    cases hsf:xw o heads ⟨depth,kind,name,num,op,at_⟩ with
    |none=>
     rw[hsf] at hG hst
     cases hG
     have hst2:Calls Tryz.prog 51 #[.pointer (some ⟨w.heap.size+1,0,none⟩), .agg #[.int .i64 depth, .int .i64 kind, .string name, .int .i64 num, .int .i64 op, .int .i64 at_]] (wr.alloc (.cells #[.int .i64 depth, .int .i64 kind, .string name, .int .i64 num, .int .i64 op, .int .i64 at_] 50)) (fun e w'=>e= .returned (.bool false)/\Kin w w'):=hst.mono fun e w' h=>⟨h.2,KIN.out _ (hAl.trans h.1)⟩
     clear hst hsf hsm hAl
     go_wp2_with (go_at_call 51;refine hst2.mono ?_;rintro e w3 ⟨rfl,hk3⟩)
     go_ret2
     exact⟨rfl,hk3⟩
    |some p=>
     obtain⟨o',h'⟩:=p
     rcases hsm with⟨e1,_⟩|⟨o1,h1,st1,b1,e1,_,e3,e4⟩
     ·rw[hsf] at e1;cases e1
     rw[hsf] at e1
     cases e1
     rw[hsf] at hG hst
     dsimp only at hG
     have E3:=Lib.hid e3
     have E4:=Lib.hid e4
     have hst2:Calls Tryz.prog 51 #[.pointer (some ⟨w.heap.size+1,0,none⟩), .agg #[.int .i64 depth, .int .i64 kind, .string name, .int .i64 num, .int .i64 op, .int .i64 at_]] (wr.alloc (.cells #[.int .i64 depth, .int .i64 kind, .string name, .int .i64 num, .int .i64 op, .int .i64 at_] 50)) (fun e w'=>e= .returned (.bool true)/\Ap (w.heap.size+1) w.heap.size wr w'/\ShM w' w.heap.size (w.heap.size+1) w.heap.size o' h'/\w'.cell? ⟨wr.heap.size,0,none⟩=some (.int .i64 depth)):=hst.mono fun e w' h=>⟨h.2.1,hAl.trans h.1,h.2.2,by
      have hz:=HA.out.size
      have hz0:=HK0.out.size
      have hb:=HM0.out.s.lt
      exact(h.1.cell (by simp) (by omega) (by omega)).trans (zfm wr _ _ _ _ _ _)⟩
     clear hst hsf hAl e3 e4
     by_cases hd24:24<depth
     ·rw[if_pos hd24] at hG
      cases hG
      have hdd:decide (24<depth)=true:=by simp[hd24]
      have HD24:=Lib.hid hd24
      clear hd24
      go_wp2_with (go_at_call 51;refine hst2.mono ?_;rintro e w3 ⟨rfl,hA3,hS3,hc3⟩)
      go_ret2
      exact⟨rfl,KIN.out _ hA3⟩
     ·rw[if_neg hd24] at hG
      have hdd:decide (24<depth)=false:=by simp;omega
      have HD24:=Lib.hid hd24
      have HG2:=Lib.hid hG
      clear hd24 hG
      go_wp2_with (go_at_call 51;refine hst2.mono ?_;rintro e w3 ⟨rfl,hA3,hS3,hc3⟩)
      go_roundg (l.length-(k+1))
      case measure=>have:=HGG.out;omega
      case rel=>exact⟨k+1,o',h',_,_,by simp,by omega,rfl,hS3,E4.out,by have:=E3.out;have:=HD24.out;omega,HA.out.trans hA3,HG2.out⟩
   ·have hkl:k=l.length:=by omega
    subst hkl
    have hG:=HG.out
    rw[List.drop_length] at hG
    unfold jT at hG
    have hwt:=kx wr HS.out
    cases hw:xX o with
    |none=>
     rw[hw] at hG hwt
     cases hG
     have HK1:=Lib.hid (KIN.out _ (Ap.refl _))
     go_wp2_with (go_at_call 52;refine hwt.mono ?_;rintro e w3 ⟨rfl,rfl⟩)
     go_ret2
     exact⟨rfl,HK1.out⟩
    |some u=>
     rw[hw] at hG hwt
     cases hG
     have hx:decide ((0:Int)<=ixV (some u))=true:=by simp[ixV]
     have HK1:=Lib.hid (KIN.out _ (Ap.refl _))
     go_wp2_with (go_at_call 52;refine hwt.mono ?_;rintro e w3 ⟨rfl,rfl⟩)
     go_ret2
     exact⟨rfl,HK1.out⟩
instance:DecidableEq Nd:=fun a b=>decidable_of_iff (a.depth=b.depth/\a.kind=b.kind/\a.name=b.name/\a.num=b.num/\a.op=b.op/\a.at_=b.at_) (by cases a;cases b;simp)
theorem guard50:Tryz.prog.eqGuardType Tryz.prog.depth 50=false:=by kernel_rfl
theorem zjv:Tryz.prog.stoodInHeld 50=false:=by kernel_rfl
theorem zgr:Tryz.prog.underlying 50=some (.struct (Tryz.prog.fieldsOf 50)):=by kernel_rfl
theorem eq50(a1 a2:Int)(a3:ByteArray)(a4 a5 a6 b1 b2:Int)(b3:ByteArray)(b4 b5 b6:Int)(w:World):(Op.equalIn 10000 50 (.agg #[.int .i64 a1, .int .i64 a2, .string a3, .int .i64 a4, .int .i64 a5, .int .i64 a6]) (.agg #[.int .i64 b1, .int .i64 b2, .string b3, .int .i64 b4, .int .i64 b5, .int .i64 b6])).run Tryz.prog w= .ok (decide (Nd.mk a1 a2 a3 a4 a5 a6=Nd.mk b1 b2 b3 b4 b5 b6)) w:=by
 rw[show(10000:Nat)=9999+1 from rfl,run_equalIn_agg w 9999 50 _ _ zgr zjv]
 simp only[Program.fieldsOf,Tryz.underlying50]
 simp[go_sem,Op.eqFields]
 have hx:(a3.toList=b3.toList)↔a3=b3:=by
  constructor
  ·intro h
   rw[ByteArray.toList_eq,ByteArray.toList_eq] at h
   obtain⟨⟨x⟩⟩:=a3
   obtain⟨⟨y⟩⟩:=b3
   have h':x=y:=h
   rw[h']
  ·rintro rfl;rfl
 by_cases h1:a1=b1<;>by_cases h2:a2=b2<;>by_cases h3:a3=b3<;>by_cases h4:a4=b4<;>by_cases h5:a5=b5<;>by_cases h6:a6=b6<;>simp[h1,h2,h3,h4,h5,h6,hx]
theorem zA.at{w:World}{b:Option Addr}{n cap:Nat}{l:List Nd}(h:zA w (.slice b n cap) l)(hl:l≠[]):∃g off,b=some ⟨g,off,none⟩/\∀(j:Nat) (n:Nd),l[j]? =some n->∀(k:Nat) (c:Value),n.cells[k]? =some c->w.cell? ⟨g,off+j*6+k,none⟩=some c:=by
 obtain⟨b',cap',h1,h2,h3⟩:=h
 cases h1
 exact h3 hl
theorem same_any(l1 l2:List Nd)(hl1:l1.length<=9223372036854775807)(hl2:l2.length<=9223372036854775807)(v1 v2:Value)(w:World)(h1:zA w v1 l1)(h2:zA w v2 l2):
 Calls Tryz.prog 16 #[v1,v2] w fun e w'=>e= .returned (.bool (decide (l1=l2)))/\Kin w w':=by
 have HN1:=Lib.hid h1
 have HN2:=Lib.hid h2
 obtain⟨b1,cap1,rfl,hcap1,hne1⟩:=h1
 obtain⟨b2,cap2,rfl,hcap2,hne2⟩:=h2
 clear hne1 hne2
 by_cases hlen:l1.length=l2.length
 ·have hd:((l1.length:Int)!=(l2.length:Int))=false:=by simp[hlen]
  have HLEN:=Lib.hid hlen
  clear hlen
  generalize hR:decide (l1=l2)=R
  have HR:=Lib.hid hR
  clear hR
  go_enter Tryz.func16,Tryz.ntmps16
  go_wp2_with fail
  go_loopg [5] l1.length (fun g x wq=>∃k:Nat,x= .int .i64 k/\k<=l1.length/\g=l1.length-k/\Kin w wq/\∀j,j<k->l1[j]? =l2[j]?)
  case atStart=>exact⟨0,rfl,Nat.zero_le _,rfl,Kin.refl _,fun j hj=>by omega⟩
  case round=>
   obtain⟨k,rfl,hk,hg,hK,hsame⟩:=hrel
   have HG:=Lib.hid hg
   have HK:=Lib.hid hK
   have HS:=Lib.hid hsame
   clear hg hK hsame
   by_cases hlk:k<l1.length
   ·have hlk2:k<l2.length:=by have:=HLEN.out;omega
    obtain⟨⟨a1,a2,a3,a4,a5,a6⟩,hu1⟩:∃u,l1[k]? =some u:=⟨_,List.getElem?_eq_getElem hlk⟩
    obtain⟨⟨c1,c2,c3,c4,c5,c6⟩,hu2⟩:∃u,l2[k]? =some u:=⟨_,List.getElem?_eq_getElem hlk2⟩
    obtain⟨g1,off1,rfl,hcell1⟩:=HN1.out.at (by rintro rfl;simp at hlk)
    obtain⟨g2,off2,rfl,hcell2⟩:=HN2.out.at (by rintro rfl;simp at hlk2)
    have cells1:∀(x:Nat) (v:Value),(Nd.mk a1 a2 a3 a4 a5 a6).cells[x]? =some v->wr.cell? ⟨g1,off1+k*6+x,none⟩=some v:=fun x v hv=>by
     have:=hcell1 k _ hu1 x v hv
     exact(HK.out.cell (World.block_lt_of_cell? w _ this)).trans this
    have cells2:∀(x:Nat) (v:Value),(Nd.mk c1 c2 c3 c4 c5 c6).cells[x]? =some v->wr.cell? ⟨g2,off2+k*6+x,none⟩=some v:=fun x v hv=>by
     have:=hcell2 k _ hu2 x v hv
     exact(HK.out.cell (World.block_lt_of_cell? w _ this)).trans this
    have r0:=cells1 0 _ rfl
    have r1:=cells1 1 _ rfl
    have r2:=cells1 2 _ rfl
    have r3:=cells1 3 _ rfl
    have r4:=cells1 4 _ rfl
    have r5:=cells1 5 _ rfl
    have s0:=cells2 0 _ rfl
    have s1:=cells2 1 _ rfl
    have s2:=cells2 2 _ rfl
    have s3:=cells2 3 _ rfl
    have s4:=cells2 4 _ rfl
    have s5:=cells2 5 _ rfl
    simp only[Nat.add_zero] at r0 s0
    have he:=eq50 a1 a2 a3 a4 a5 a6 c1 c2 c3 c4 c5 c6
    have hgd:=guard50
    have HU1:=Lib.hid hu1
    have HU2:=Lib.hid hu2
    clear cells1 cells2 hcell1 hcell2 hu1 hu2
    by_cases hab:Nd.mk a1 a2 a3 a4 a5 a6=Nd.mk c1 c2 c3 c4 c5 c6
    ·rw[decide_eq_true hab] at he
     have HAB:=Lib.hid hab
     clear hab
     go_wp2_with fail
     go_region
     go_wp2_with fail
     go_roundg (l1.length-(k+1))
     case measure=>have:=HG.out;omega
     case rel=>
      refine⟨k+1,by simp,by omega,rfl,HK.out.drewN _,fun j hj=>?_⟩
      by_cases e:j=k
      ·subst e;rw[HU1.out,HU2.out,HAB.out]
      ·exact HS.out j (by omega)
    ·rw[decide_eq_false hab] at he
     have hRf:R=false:=by
      rw[<-HR.out,decide_eq_false_iff_not]
      rintro rfl
      have h1:=HU1.out
      rw[HU2.out] at h1
      exact hab (Option.some.inj h1).symm
     subst hRf
     clear hab
     go_wp2_with fail
     go_region
     go_wp2_with fail
     go_ret
     exact⟨rfl,HK.out.drewN _⟩
   ·have hkl:k=l1.length:=by omega
    subst hkl
    have hRt:R=true:=by
     rw[<-HR.out,decide_eq_true_iff]
     apply List.ext_getElem?
     intro j
     by_cases hj:j<l1.length
     ·exact HS.out j hj
     ·rw[List.getElem?_eq_none (by omega),List.getElem?_eq_none (by have:=HLEN.out;omega)]
    subst hRt
    go_wp2_with fail
    go_ret
    exact⟨rfl,HK.out⟩
 ·have hd:((l1.length:Int)!=(l2.length:Int))=true:=by simp;omega
  have hn:decide (l1=l2)=false:=by
   rw[decide_eq_false_iff_not]
   rintro rfl
   exact hlen rfl
  rw[hn]
  clear hlen
  go_enter Tryz.func16,Tryz.ntmps16
  go_wp2_with fail
  go_ret
  exact⟨rfl,Kin.refl _⟩
open Go.RowKit Go.Bsd
def fixedText:ByteArray:={data:= #[120,32,58,61,32,49,32,45,32,50,59]}
def fixedTree:List Nd:=[⟨1,2,{data:= #[120]},0,0,0⟩,⟨2,15,{data:= #[]},0,4,7⟩,⟨3,10,{data:= #[]},1,0,5⟩,⟨3,10,{data:= #[]},2,0,9⟩]
theorem zfn:(badOf (pieces fixedText)).1=0:=by kernel_rfl
theorem zhe:(rd (ctx0 fixedText) 60 .prog 0).map qd=some (.tree fixedTree):=by kernel_rfl
theorem zbe:zN fixedText (.tree fixedTree):=by
 unfold zN
 rw[if_neg (by decide),if_neg (by rw[zfn];simp)]
 obtain⟨r,h1,h2⟩:=Option.map_eq_some_iff.1 zhe
 exact⟨60,r,h1,h2.symm⟩
theorem zce:jq fixedTree=(0,0):=by kernel_rfl
theorem zbd:jq (fixedTree.take 3)=(33,3):=by kernel_rfl
theorem zA.of_owns{w:World}{base:Nat}{v:Value}{l:List Nd}(h:w.ownsRow base 50 6 v l.length (ndCells l)):zA w v l:=by
 have h0:=h
 rcases h.2 with⟨rfl,hn⟩|⟨g,cap,cur,rfl,hb,hg,hc,_,_,_⟩
 ·refine⟨none,0,by rw[hn],by omega,fun hl=>absurd (List.eq_nil_of_length_eq_zero hn) hl⟩
 ·refine⟨_,cap,rfl,hc,fun _=>⟨g,0,rfl,fun j n hj k c hk=>?_⟩⟩
  have hk6:k<6:=by have:=(List.getElem?_eq_some_iff.1 hk).1;simpa [Nd.cells] using this
  have:=h0.cells rfl (j*6+k) c ((nd_get hj k hk6).trans hk)
  rw[show((⟨g,0,none⟩:Addr).add (j*6+k))=⟨g,j*6+k,none⟩ from by unfold Addr.add;split<;>simp_all] at this
  rw[show 0+j*6+k=j*6+k from by omega]
  exact this
theorem zA.of_block{w:World}{g:Nat}{cur:Array Value}{l:List Nd}{n cap:Nat}(hg:w.heap[g]? =some (.cells cur 50 (0,0)))(hc:cur.toList.take (l.length*6)=ndCells l)(hn:n=l.length)(hcap:l.length<=cap):zA w (.slice (some ⟨g,0,none⟩) n cap) l:=by
 refine⟨_,cap,by rw[hn],hcap,fun _=>⟨g,0,rfl,fun j n hj k c hk=>?_⟩⟩
 have hk6:k<6:=by have:=(List.getElem?_eq_some_iff.1 hk).1;simpa [Nd.cells] using this
 have hjl:=(List.getElem?_eq_some_iff.1 hj).1
 have h2:=(nd_get hj k hk6).trans hk
 rw[<-hc,List.getElem?_take,if_pos (by omega)] at h2
 rw[show 0+j*6+k=j*6+k from by omega]
 unfold World.cell?
 simp[hg]
 simpa using h2
theorem zS(w:World)(T:Nat->Question->Nat)(d:Nat):Kin w (re w T d):=⟨rfl,rfl,Nat.le_refl _,fun _ _=>rfl⟩
def TrueP(w:World):Ending->World->Prop
 | .returned v,w'=>v= .bool true/\Kin w w'
 |_,_=>False
noncomputable def fx0:Code:=(Tryz.f13.body.getD .skip)
noncomputable def fx1:Code:=seqL (seqR fx0)
noncomputable def fx2:Code:=seqR (seqR fx0)
theorem zjy:fx0= .seq (seqL fx0) (.seq fx1 fx2):=rfl
theorem zjx:∃id,fx1= .region id (zm fx1) false:=⟨_,rfl⟩
def xL:Array Value:= #[.int .i64 1, .int .i64 2, .string {data:= #[120]}, .int .i64 0, .int .i64 0, .int .i64 0, .int .i64 2, .int .i64 15, .string {data:= #[]}, .int .i64 0, .int .i64 4, .int .i64 7, .int .i64 3, .int .i64 10, .string {data:= #[]}, .int .i64 1, .int .i64 0, .int .i64 5, .int .i64 3, .int .i64 10, .string {data:= #[]}, .int .i64 2, .int .i64 0, .int .i64 9]
theorem zag:∀n∈fixedTree,n.name.size<=140737488355328/\ -9223372036854775808<=n.depth/\n.depth<=9223372036854775807:=by
 intro n hn
 simp only[fixedTree,List.mem_cons,List.not_mem_nil,or_false] at hn
 rcases hn with rfl|rfl|rfl|rfl<;>exact⟨by decide,by decide,by decide⟩
theorem fixed_tail(w w1:World)(kw:Kin w w1)(sl:Value)(hN:zA w1 sl fixedTree)(T:Nat->Question->Nat)(d:Nat)(t8 t9:Value):
 fx2.wp Tryz.prog (bodyPost Tryz.prog Tryz.f13 (TrueP w)) {tmps:= #[.bool false,sl, .nilIface,undef,undef,undef,undef,undef,t8,t9,sl, .nilIface,undef,undef,undef,undef,undef,undef,undef,undef,undef,undef,undef,undef,undef,undef,undef,undef,undef,undef,undef,undef,undef,undef,undef,undef,undef,undef,undef,undef,undef,undef,undef,undef,undef,undef,undef,undef,undef,undef],defers:=[]} (re w1 T d):=by
 have k1:Kin w1 (re w1 T d):=⟨rfl,rfl,Nat.le_refl _,fun _ _=>rfl⟩
 have k2:Kin w1 ((re w1 T d).alloc (.cells xL 50)):=k1.alloc _
 have hb:((re w1 T d).alloc (.cells xL 50)).heap[w1.heap.size]? =some (.cells xL 50 (0,0)):=by
  have:=heap_alloc_new (re w1 T d) (.cells xL 50)
  simpa using this
 have n1:=hN.kin k2
 have n2:zA ((re w1 T d).alloc (.cells xL 50)) (.slice (some ⟨w1.heap.size,0,none⟩) 4 4) fixedTree:=zA.of_block hb rfl rfl (by decide)
 have n3:zA ((re w1 T d).alloc (.cells xL 50)) (.slice (some ⟨w1.heap.size,0,none⟩) 3 4) (fixedTree.take 3):=zA.of_block hb rfl rfl (by decide)
 have HS:=Lib.hid (same_any fixedTree fixedTree (by decide) (by decide) _ _ _ n1 n2)
 have HSh:=Lib.hid (fun w' (k:Kin _ w')=>gS fixedTree zag (by decide) _ w' (n2.kin k))
 have HSh3:=Lib.hid (fun w' (k:Kin _ w')=>gS (fixedTree.take 3) (fun n hn=>zag n (List.mem_of_mem_take hn)) (by decide) _ w' (n3.kin k))
 rw[zce] at HSh
 rw[zbd] at HSh3
 rw[decide_eq_true rfl] at HS
 have KW:=Lib.hid (kw.trans k2)
 clear hN n1 n2 n3 k1 k2 hb
 obtain⟨W2,hW2⟩:∃W2,W2=(re w1 T d).alloc (.cells xL 50):=⟨_,rfl⟩
 rw[<-hW2] at HSh HSh3 KW
 have HS2:Hid (Calls Tryz.prog 16 #[sl, .slice (some ⟨w1.heap.size,0,none⟩) 4 4] ((re w1 T d).alloc (.cells xL 50)) fun e w'=>e= .returned (.bool true)/\Hid (Kin W2 w')):=Lib.hid (HS.out.mono fun e w' h=>⟨h.1,Lib.hid (by rw[hW2];exact h.2)⟩)
 unfold xL at HS2
 clear HS hW2
 have hsl:∀u,(Instr.sliceAt 25 (.slice (some ⟨w1.heap.size,0,none⟩) 4 4) none (some (.int .i64 3)) none).run Tryz.prog u= .ok (.slice (some ⟨w1.heap.size,0,none⟩) 3 4) u:=fun u=>by
  obtain⟨k,hk⟩:∃k,∀w,(sizeOf (Tryz.prog.elem 25)).run Tryz.prog w= .ok k w:=⟨6,fun w=>by kernel_rfl⟩
  rw[run_sliceAt_slice _ _ _ _ _ _ (by kernel_rfl),run_slice_h _ _ _ _ _ (by kernel_rfl) _ _ (by decide) (by decide),hk]
  simp[Result.andThen,sliced,Addr.add]
 generalize hB:bodyPost Tryz.prog Tryz.f13 (TrueP w)=B
 have HB:=Lib.hid hB
 clear hB
 simp only[fx2,fx0,seqR,Tryz.f13,Option.getD_some]
 go_wp2_with (go_at_call 16;refine HS2.out.mono ?_;rintro e w3 ⟨rfl,hk3⟩)
 have h18:=Lib.hid (HSh.out _ hk3.out)
 refine h18.out.mono ?_
 rintro e w4 ⟨rfl,hk4'⟩
 have hk4:=Lib.hid hk4'
 clear hk4' h18
 dsimp only
 go_wp2_with fail
 have h18:=Lib.hid (HSh3.out _ (hk3.out.trans hk4.out))
 refine h18.out.mono ?_
 rintro e w5 ⟨rfl,hk5'⟩
 have hk5:=Lib.hid hk5'
 clear hk5' h18 HSh3 HSh hsl
 dsimp only
 go_wp2_with fail
 rw[<-HB.out]
 go_ret
 exact⟨rfl,KW.out.trans (hk3.out.trans (hk4.out.trans hk5.out))⟩
theorem zah(hP:TameProg Tryz.prog)(te:TypeId)(pe:Value)(w:World)(hv:VarsOk w)(ce:w.cell? ⟨0,0,none⟩=some (.iface te pe)):CallsB Tryz.prog 13 #[] w (TrueP w):=by
 have hR:∀w',¬TrueP w .outgrown w':=fun w' h=>h
 refine jz hP Tryz.func13 (c:=fx0) rfl hR ?_
 rw[zjy]
 have ha:(#[]++Array.replicate (Tryz.f13.ntmps-(#[]:Array Value).size) undef)= #[undef,undef,undef,undef,undef,undef,undef,undef,undef,undef,undef,undef,undef,undef,undef,undef,undef,undef,undef,undef,undef,undef,undef,undef,undef,undef,undef,undef,undef,undef,undef,undef,undef,undef,undef,undef,undef,undef,undef,undef,undef,undef,undef,undef,undef,undef,undef,undef,undef,undef]:=by
  simp only[Tryz.ntmps13]
  simp[Array.replicate_succ]
 rw[ha]
 clear ha
 refine vo hP fun T d=>?_
 generalize hB:bodyPost Tryz.prog Tryz.f13 (TrueP w)=B
 have HB:=Lib.hid hB
 clear hB
 generalize hY:(Code.seq fx1 fx2)=Y
 have HP:=Lib.hid (kg hP fixedText (by decide) te pe w hv ce _ zbe)
 clear hv ce
 simp only[seqL,fx0,Tryz.f13,Option.getD_some]
 go_wp2
 subst hY
 refine zaG ?_
 refine wpB_seq hP ?_
 obtain⟨id,hid⟩:=zjx
 rw[hid]
 clear hid
 generalize hX:fx2=X
 simp only[fx1,fx0,seqL,seqR,zm,Tryz.f13,Option.getD_some]
 subst hX
 refine xJ hP (l:=[_,_,_,_,_,_]) ?_
 refine qB hP Tryz.func14 (by kernel_rfl) (by kernel_rfl) rfl rfl (args:= #[.string fixedText]) (by simp[Act.eval,yS,fixedText]) (HP.out.mono ?_)
 rintro e w1 hpost
 cases e with
 |outgrown=>exact hpost.elim
 |panicked _=>exact hpost.elim
 |returned v=>
  obtain⟨kin,sl,rfl,hown⟩:=hpost
  have hn:=zA.of_owns hown
  have HT:Hid (∀t8 t9,wpB Tryz.prog fx2 B {tmps:= #[.bool false,sl, .nilIface,undef,undef,undef,undef,undef,t8,t9,sl, .nilIface,undef,undef,undef,undef,undef,undef,undef,undef,undef,undef,undef,undef,undef,undef,undef,undef,undef,undef,undef,undef,undef,undef,undef,undef,undef,undef,undef,undef,undef,undef,undef,undef,undef,undef,undef,undef,undef,undef],defers:=[]} w1):=Lib.hid (fun t8 t9=>by
   rw[<-HB.out]
   exact wpB_lift hP fun T d=>fixed_tail w w1 kin sl hn T d t8 t9)
  clear hn hown kin HB HP
  generalize hX:fx2=X at HT⊢
  clear hX
  show yx Tryz.prog _ _ _ _ w1
  generalize hN:Exit.then (wpB Tryz.prog X B) B=N
  refine listB_lift hP fun T d=>?_
  go_wp2
  subst hN
  exact HT.out _ _
open Go.RowKit
def kws:List ByteArray:=[{data:= #[118,97,114]},{data:= #[97,114,114,97,121]},{data:= #[105,110,112,117,116]},{data:= #[97,115,115,101,114,116]},{data:= #[115,107,105,112]},{data:= #[105,102]},{data:= #[101,108,115,101]},{data:= #[119,104,105,108,101]},{data:= #[116,114,117,101]},{data:= #[102,97,108,115,101]}]
def jO:Array Value:= #[.string {data:= #[118,97,114]}, .string {data:= #[97,114,114,97,121]}, .string {data:= #[105,110,112,117,116]}, .string {data:= #[97,115,115,101,114,116]}, .string {data:= #[115,107,105,112]}, .string {data:= #[105,102]}, .string {data:= #[101,108,115,101]}, .string {data:= #[119,104,105,108,101]}, .string {data:= #[116,114,117,101]}, .string {data:= #[102,97,108,115,101]}]
def kwAt(k:Nat):ByteArray:=kws[k]?.getD {data:= #[]}
theorem zg1:∀k,k<10->jO[k]? =some (.string (kwAt k))
 |0,_=>rfl
 |1,_=>rfl
 |2,_=>rfl
 |3,_=>rfl
 |4,_=>rfl
 |5,_=>rfl
 |6,_=>rfl
 |7,_=>rfl
 |8,_=>rfl
 |9,_=>rfl
 |n+10,h=>absurd h (by omega)
theorem vy(s:ByteArray):zd s=(List.range 10).any fun k=>((kwAt k).toList==s.toList):=by
 have e0:(kwAt 0).toList=[118,97,114]:=by kernel_rfl
 have e1:(kwAt 1).toList=[97,114,114,97,121]:=by kernel_rfl
 have e2:(kwAt 2).toList=[105,110,112,117,116]:=by kernel_rfl
 have e3:(kwAt 3).toList=[97,115,115,101,114,116]:=by kernel_rfl
 have e4:(kwAt 4).toList=[115,107,105,112]:=by kernel_rfl
 have e5:(kwAt 5).toList=[105,102]:=by kernel_rfl
 have e6:(kwAt 6).toList=[101,108,115,101]:=by kernel_rfl
 have e7:(kwAt 7).toList=[119,104,105,108,101]:=by kernel_rfl
 have e8:(kwAt 8).toList=[116,114,117,101]:=by kernel_rfl
 have e9:(kwAt 9).toList=[102,97,108,115,101]:=by kernel_rfl
 have hr:List.range 10=[0,1,2,3,4,5,6,7,8,9]:=by decide
 rw[hr,Bool.eq_iff_iff]
 simp only[zd,List.any_cons,List.any_nil,e0,e1,e2,e3,e4,e5,e6,e7,e8,e9,Bool.or_eq_true,beq_iff_eq,Bool.or_false]
 simp only[eq_comm]
theorem ziw(w:World)(k:Nat)(hk:k<10):(w.alloc (.cells jO 9)).cell? ⟨w.heap.size,k,none⟩=some (.string (kwAt k)):=by
 rw[World.cell?_alloc_at _ _ _ _ rfl]
 exact zg1 k hk
theorem zcb(s:ByteArray)(w:World):Calls Tryz.prog 134 #[.string s] w fun e w'=>e= .returned (.bool (zd s))/\Kin w w':=by
 have K1:=Lib.hid ((Kin.refl w).alloc (.cells jO 9))
 have HC:=Lib.hid (ziw w)
 unfold jO at K1 HC
 generalize hR:zd s=R
 have HR:=Lib.hid hR
 clear hR
 go_enter Tryz.func134,Tryz.ntmps134
 go_wp2
 go_loopg [4] 10 (fun g x wq=>∃k:Nat,x= .int .i64 k/\k<=10/\g=10-k/\(∀j,j<k->((kwAt j).toList==s.toList)=false)/\wq=w.alloc (.cells jO 9))
 case atStart=>exact⟨0,rfl,by omega,rfl,fun j hj=>by omega,rfl⟩
 case round=>
  obtain⟨k,rfl,hk,hg,hn,rfl⟩:=hrel
  have HG:=Lib.hid hg
  have HN:=Lib.hid hn
  clear hg hn
  unfold jO
  by_cases hlt:k<10
  ·have hc:=HC.out k hlt
   generalize hkw:kwAt k=t at hc
   have HKW:=Lib.hid hkw
   clear hkw
   by_cases he:(t.toList==s.toList)=true
   ·have hRt:R=true:=by
     rw[<-HR.out,vy,List.any_eq_true]
     exact⟨k,List.mem_range.2 hlt,by rw[HKW.out];exact he⟩
    subst hRt
    go_wp2_with fail
    go_ret
    exact⟨rfl,K1.out⟩
   ·have he:(t.toList==s.toList)=false:=by simpa using he
    go_wp2_with fail
    go_roundg (10-(k+1))
    case measure=>have:=HG.out;omega
    case rel=>
     refine⟨k+1,by simp,by omega,rfl,fun j hj=>?_,rfl⟩
     by_cases e:j=k
     ·subst e;rw[HKW.out];exact he
     ·exact HN.out j (by omega)
  ·have hk10:k=10:=by omega
   subst hk10
   have hRf:R=false:=by
    rw[<-HR.out,vy,List.any_eq_false]
    intro j hj
    rw[HN.out j (List.mem_range.1 hj)]
    simp
   subst hRf
   go_wp2_with fail
   go_ret
   exact⟨rfl,K1.out⟩
theorem rletter_any(x:Int)(w:World):Calls Tryz.prog 124 #[.int .u8 x] w fun e w'=>e= .returned (.bool (isLetter x))/\w'=w:=by
 go_enter Tryz.func124,Tryz.ntmps124
 go_wp2
 all_goals
  go_ret
  refine⟨?_,rfl⟩
  show Ending.returned (.bool _)=Ending.returned (.bool _)
  refine congrArg _ (congrArg _ ?_)
  rw[Bool.eq_iff_iff]
  simp[isLetter]
  try omega
theorem yQ(x:Int)(w:World):Calls Tryz.prog 125 #[.int .u8 x] w fun e w'=>e= .returned (.bool (isDigit x))/\w'=w:=by
 go_enter Tryz.func125,Tryz.ntmps125
 go_wp2
 all_goals
  go_ret
  refine⟨?_,rfl⟩
  show Ending.returned (.bool _)=Ending.returned (.bool _)
  refine congrArg _ (congrArg _ ?_)
  rw[Bool.eq_iff_iff]
  simp[isDigit]
  try omega
theorem kT(x:Int)(w:World):Calls Tryz.prog 123 #[.int .u8 x] w fun e w'=>e= .returned (.bool (zV x))/\w'=w:=by
 go_enter Tryz.func123,Tryz.ntmps123
 go_wp2
 all_goals
  go_ret
  refine⟨?_,rfl⟩
  show Ending.returned (.bool _)=Ending.returned (.bool _)
  refine congrArg _ (congrArg _ ?_)
  rw[Bool.eq_iff_iff]
  simp[zV]
  try omega
def zfQ(s:ByteArray)(i k:Nat):Prop:=∃h:i<s.size,(zV (s[i]).toNat=true/\k=i+1)\/(zV (s[i]).toNat=false/\(s[i]).toNat=35/\Upto isLine s i k)\/(zV (s[i]).toNat=false/\(s[i]).toNat≠35/\k=i)
theorem zd4(s:ByteArray)(i:Nat)(w:World)(hi:i<s.size)(hs:s.size<=8796093022207):
 Calls Tryz.prog 86 #[.string s, .int .i64 i] w fun e w'=>(∃k:Nat,zfQ s i k/\e= .returned (.int .i64 k))/\w'=w:=by
 go_enter Tryz.func86,Tryz.ntmps86
 cases hb:zV (s[i]).toNat with
 |true=>
  go_wp2_with (go_at_call 123;with_reducible refine(kT _ _).mono ?_;rintro e w' ⟨rfl,he⟩;obtain rfl:=he.symm)
  go_ret
  exact⟨⟨i+1,⟨hi, .inl ⟨hb,rfl⟩⟩,by simp⟩,rfl⟩
 |false=>
  by_cases h35:(s[i]).toNat=35
  ·have hd:(((s[i]).toNat:Int)!=35)=false:=by simp[h35]
   go_wp2_with (go_at_call 123;with_reducible refine(kT _ _).mono ?_;rintro e w' ⟨rfl,he⟩;obtain rfl:=he.symm)
   go_loop [1] (fun c=>∃k:Nat,i<=k/\k<=s.size/\c= .int .i64 k/\∀(j:Nat) (h:j<s.size),i<=j->j<k->isLine s[j].toNat=true)
    (fun c=>s.size-(intOf c).toNat)
   case atStart=>exact⟨i,Nat.le_refl _,by omega,rfl,fun j _ h1 h2=>by omega⟩
   case round=>
    obtain⟨k,h1,h2,rfl,h3⟩:=hrel
    by_cases hlt:k<s.size
    ·by_cases hk:(s[k]).toNat=10
     ·have hd2:(((s[k]).toNat:Int)!=10)=false:=by simp[hk]
      go_wp2_with fail
      go_ret
      exact⟨⟨k,⟨hi, .inr (.inl ⟨hb,h35,h1,h2,h3,fun _=>by simp[isLine,hk]⟩)⟩,rfl⟩,rfl⟩
     ·have hd2:(((s[k]).toNat:Int)!=10)=true:=by simp;omega
      go_wp2_with fail
      go_round
      case rel=>
       refine⟨k+1,by omega,by omega,by go_num,fun j hj a b=>?_⟩
       by_cases e:j=k
       ·subst e;simp only[isLine];exact hd2
       ·exact h3 j hj a (by omega)
      case measure=>simp[intOf];omega
    ·go_wp2_with fail
     go_ret
     exact⟨⟨k,⟨hi, .inr (.inl ⟨hb,h35,h1,h2,h3,fun h=>absurd h hlt⟩)⟩,rfl⟩,rfl⟩
  ·have hd:(((s[i]).toNat:Int)!=35)=true:=by simp;omega
   go_wp2_with (go_at_call 123;with_reducible refine(kT _ _).mono ?_;rintro e w' ⟨rfl,he⟩;obtain rfl:=he.symm)
   go_ret
   exact⟨⟨i,⟨hi, .inr (.inr ⟨hb,h35,rfl⟩)⟩,rfl⟩,rfl⟩
def digitsN:List UInt8->Nat->Nat
 |[],a=>a
 |c::r,a=>digitsN r (a*10+(c.toNat-48))
theorem vR(x:ByteArray)(k:Nat):(x.extract k x.size).data.toList=x.data.toList.drop k:=by
 rw[ByteArray.data_extract,Array.toList_extract]
 simp[List.extract]
 rw[List.take_of_length_le]
 simp
def wC:List UInt8:=[57,50,50,51,51,55,50,48,51,54,56,53,52,55,55,53,56,48,55]
def Dg(c:UInt8):Prop:=48<=c.toNat/\c.toNat<=57
theorem kD:∀(l:List UInt8) (a:Nat),digitsN l a=a*10 ^ l.length+digitsN l 0
 |[],a=>by simp[digitsN]
 |c::r,a=>by
  unfold digitsN
  rw[kD r (a*10+(c.toNat-48)),kD r (0*10+(c.toNat-48)),List.length_cons,Nat.pow_succ]
  simp only[Nat.add_mul,Nat.zero_mul,Nat.zero_add]
  rw[Nat.mul_assoc,Nat.mul_comm 10 (10 ^ r.length),Nat.add_assoc]
theorem qP(c:UInt8)(r:List UInt8):digitsN (c::r) 0=(c.toNat-48)*10 ^ r.length+digitsN r 0:=by
 conv=>lhs;unfold digitsN
 rw[kD,Nat.zero_mul,Nat.zero_add]
theorem jK:∀(l:List UInt8),(∀c∈l,Dg c)->digitsN l 0<10 ^ l.length
 |[],_=>by simp[digitsN]
 |c::r,h=>by
  have h1:=jK r (fun d hd=>h d (List.mem_cons_of_mem _ hd))
  have h2:=h c (List.mem_cons_self ..)
  unfold Dg at h2
  rw[qP,List.length_cons,Nat.pow_succ]
  have:(c.toNat-48)*10 ^ r.length<=9*10 ^ r.length:=Nat.mul_le_mul_right _ (by omega)
  omega
theorem zdZ{c:UInt8}{r:List UInt8}(hc:48<c.toNat):10 ^ r.length<=digitsN (c::r) 0:=by
 rw[qP]
 have:1*10 ^ r.length<=(c.toNat-48)*10 ^ r.length:=Nat.mul_le_mul_right _ (by omega)
 omega
theorem zaw(k:Nat)(l:List UInt8):digitsN (List.replicate k 48++l) 0=digitsN l 0:=by
 induction k with
 |zero=>rfl
 |succ k ih=>rw[List.replicate_succ,List.cons_append];conv=>lhs;unfold digitsN
             exact ih
theorem wD:∀(a b:List UInt8),a.length=b.length->(∀c∈a,Dg c)->(∀c∈b,Dg c)->(Op.bytesLess a b || a==b)=decide (digitsN a 0<=digitsN b 0)
 |[],[],_,_,_=>by simp[Op.bytesLess,digitsN]
 |c::r,d::t,hl,ha,hb=>by
  have hl':r.length=t.length:=by simpa using hl
  have ih:=wD r t hl' (fun x hx=>ha x (List.mem_cons_of_mem _ hx)) (fun x hx=>hb x (List.mem_cons_of_mem _ hx))
  have hc:=ha c (List.mem_cons_self ..)
  have hd:=hb d (List.mem_cons_self ..)
  have l1:=jK r (fun x hx=>ha x (List.mem_cons_of_mem _ hx))
  have l2:=jK t (fun x hx=>hb x (List.mem_cons_of_mem _ hx))
  unfold Dg at hc hd
  rw[qP,qP,hl']
  rw[hl'] at l1
  rcases Nat.lt_trichotomy c.toNat d.toNat with h|h|h
  ·have e:(c.toNat-48+1)*10 ^ t.length<=(d.toNat-48)*10 ^ t.length:=Nat.mul_le_mul_right _ (by omega)
   rw[Nat.add_mul] at e
   have hlt:c<d:=UInt8.lt_iff_toNat_lt.2 h
   rw[decide_eq_true (by omega)]
   simp[Op.bytesLess,hlt]
  ·have e:c=d:=UInt8.toNat_inj.1 h
   subst e
   have e2:decide ((c.toNat-48)*10 ^ t.length+digitsN r 0<=(c.toNat-48)*10 ^ t.length+digitsN t 0)=decide (digitsN r 0<=digitsN t 0):=by
    rw[decide_eq_decide];omega
   rw[e2,<-ih]
   simp[Op.bytesLess]
  ·have e:(d.toNat-48+1)*10 ^ t.length<=(c.toNat-48)*10 ^ t.length:=Nat.mul_le_mul_right _ (by omega)
   rw[Nat.add_mul] at e
   have hlt:d<c:=UInt8.lt_iff_toNat_lt.2 h
   have hne:¬c<d:=fun h'=>by have:=UInt8.lt_iff_toNat_lt.1 h';omega
   have hne2:c≠d:=by rintro rfl;omega
   rw[decide_eq_false (by omega)]
   simp[Op.bytesLess,hlt,hne,hne2]
 |[],_::_,h,_,_=>by simp at h
 |_::_,[],h,_,_=>by simp at h
theorem zgY:∀c∈wC,Dg c:=by
 unfold Dg;decide
theorem zit:digitsN wC 0=9223372036854775807:=by decide
theorem vS{s x:List UInt8}{k:Nat}(hx:s=List.replicate k 48++x)(hd:∀c∈s,Dg c):digitsN s 0=digitsN x 0/\∀c∈x,Dg c:=
 ⟨by rw[hx,zaw],fun c hc=>hd c (by rw[hx];exact List.mem_append_right _ hc)⟩
theorem zgx{l:List UInt8}(hd:∀c∈l,Dg c)(h:l.length=19):(Op.bytesLess l wC || l==wC)=decide (digitsN l 0<9223372036854775808):=by
 rw[wD l wC (by rw[h];rfl) hd zgY,zit,decide_eq_decide]
 omega
theorem small_short{l:List UInt8}(hd:∀c∈l,Dg c)(h:l.length<19):digitsN l 0<9223372036854775808:=by
 have h1:=jK l hd
 have h2:10 ^ l.length<=10 ^ 18:=Nat.pow_le_pow_right (by decide) (by omega)
 have h3:10 ^ 18<9223372036854775808:=by decide
 omega
theorem zdl{c:UInt8}{r:List UInt8}(hc:48<c.toNat)(h:19<(c::r).length):¬digitsN (c::r) 0<9223372036854775808:=by
 have h1:=zdZ (r:=r) hc
 have h2:10 ^ 19<=10 ^ r.length:=Nat.pow_le_pow_right (by decide) (by simp at h;omega)
 have h3:9223372036854775808<10 ^ 19:=by decide
 omega
theorem za6{x:ByteArray}(h:0<x.size):∃r,x.data.toList=x[0]::r:=by
 obtain⟨⟨l⟩⟩:=x
 cases l with
 |nil=>simp[ByteArray.size] at h
 |cons c r=>exact⟨r,rfl⟩
theorem zeI(s:ByteArray)(w:World)(hs:s.size<=8796093022207)(hdig:∀c∈s.data.toList,Dg c):
 Calls Tryz.prog 126 #[.string s] w fun e w'=>e= .returned (.bool (decide (digitsN s.data.toList 0<9223372036854775808)))/\w'=w:=by
 have HD:=Lib.hid hdig
 clear hdig
 generalize hR:decide (digitsN s.data.toList 0<9223372036854775808)=R
 have HR:=Lib.hid hR
 clear hR
 go_enter Tryz.func126,Tryz.ntmps126
 go_wp2_with fail
 go_loopg [0] s.size (fun g c wq=>∃(x:ByteArray) (k:Nat),c= .string x/\s.data.toList=List.replicate k 48++x.data.toList/\g=x.size/\wq=w)
 case atStart=>exact⟨s,0,rfl,rfl,rfl,rfl⟩
 case round=>
  obtain⟨x,k,rfl,hx,hg,rfl⟩:=hrel
  have HG:=Lib.hid hg
  have HX:=Lib.hid hx
  have HXS:=Lib.hid (show x.data.toList.length=x.size from Array.length_toList)
  clear hg hx
  by_cases h0:0<x.size
  ·obtain⟨r,hr⟩:=za6 h0
   have HRR:=Lib.hid hr
   clear hr
   by_cases hz:(x[0]).toNat=48
   ·have hd:(((x[0]).toNat:Int)==48)=true:=by simp[hz]
    go_wp2_with fail
    go_roundg (x.size-1)
    case measure=>have:=HG.out;omega
    case rel=>
     refine⟨_,k+1,rfl,?_,?_,rfl⟩
     ·rw[vR,HX.out,HRR.out,UInt8.toNat_inj.1 (show(x[0]).toNat=(48:UInt8).toNat from hz),List.replicate_succ',List.append_assoc]
      rfl
     ·have e:(x.extract 1 x.size).size=(x.extract 1 x.size).data.toList.length:=Array.length_toList.symm
      rw[e]
      have:=congrArg List.length (vR x 1)
      rw[List.length_drop,HXS.out] at this
      exact this.symm
   ·have hd:(((x[0]).toNat:Int)==48)=false:=by simp;omega
    obtain⟨q1,q2⟩:=vS HX.out HD.out
    by_cases h19:x.size=19
    ·have hres:(Op.bytesLess x.toList [57,50,50,51,51,55,50,48,51,54,56,53,52,55,55,53,56,48,55] || x.toList==[57,50,50,51,51,55,50,48,51,54,56,53,52,55,55,53,56,48,55])=R:=by
      rw[ByteArray.toList_eq,<-HR.out,q1]
      exact zgx q2 (HXS.out.trans h19)
     clear q1 q2
     go_wp2_with fail
     go_ret
     exact⟨rfl,rfl⟩
    ·have hres:decide ((x.size:Int)<19)=R:=by
      rw[<-HR.out,q1,decide_eq_decide]
      have hne:48<(x[0]).toNat:=by
       have:=q2 x[0] (by rw[HRR.out];exact List.mem_cons_self ..)
       unfold Dg at this
       omega
      constructor
      ·intro h
       exact small_short q2 (by rw[HXS.out];omega)
      ·intro h
       rcases Nat.lt_or_ge x.size 19 with h'|h'
       ·omega
       ·exfalso
        have hl:=HXS.out
        rw[HRR.out] at hl h
        exact zdl hne (by omega) h
     clear q1 q2
     go_wp2_with fail
     go_ret
     exact⟨rfl,rfl⟩
  ·have hx0:x.data.toList=[]:=List.eq_nil_of_length_eq_zero (by rw[HXS.out];omega)
   have hres:true=R:=by
    rw[<-HR.out,(vS HX.out HD.out).1,hx0]
    rfl
   subst hres
   go_wp2_with fail
   go_ret
   exact⟨congrArg (fun b=>Ending.returned (.bool b)) (decide_eq_true (by omega)),rfl⟩
theorem jd:∀(l:List UInt8) (a:Nat),a<=digitsN l a
 |[],a=>Nat.le_refl _
 |c::r,a=>by unfold digitsN;exact Nat.le_trans (by omega) (jd r _)
theorem kC:∀(a b:List UInt8) (x:Nat),digitsN (a++b) x=digitsN b (digitsN a x)
 |[],b,x=>rfl
 |c::r,b,x=>kC r b (x*10+(c.toNat-48))
theorem zbj{l:List UInt8}{k:Nat}{c:UInt8}(h:l[k]? =some c):digitsN (l.take (k+1)) 0=digitsN (l.take k) 0*10+(c.toNat-48):=by
 rw[List.take_add_one,h,kC]
 rfl
theorem wM(l:List UInt8)(k:Nat):digitsN (l.take k) 0<=digitsN l 0:=by
 conv=>rhs;rw[<-List.take_append_drop k l,kC]
 exact jd _ _
theorem zex(s:ByteArray)(w:World)(hs:s.size<=8796093022207)(hdig:∀c∈s.data.toList,Dg c)(hlt:digitsN s.data.toList 0<9223372036854775808):
 Calls Tryz.prog 127 #[.string s] w fun e w'=>e= .returned (.int .i64 (digitsN s.data.toList 0:Nat))/\w'=w:=by
 have HD:=Lib.hid hdig
 have HLT:=Lib.hid hlt
 have HSZ:=Lib.hid (show s.data.toList.length=s.size from Array.length_toList)
 clear hdig hlt
 go_enter Tryz.func127,Tryz.ntmps127
 go_wp2_with fail
 go_loopg [3,4] s.size (fun g x y wq=>∃k:Nat,x= .int .i64 (digitsN (s.data.toList.take k) 0:Nat)/\y= .int .i64 k/\k<=s.size/\g=s.size-k/\wq=w)
 case atStart=>exact⟨0,rfl,rfl,Nat.zero_le _,rfl,rfl⟩
 case round=>
  obtain⟨k,rfl,rfl,hk,hg,rfl⟩:=hrel
  have HG:=Lib.hid hg
  clear hg
  by_cases hlt:k<s.size
  ·have hget:s.data.toList[k]? =some s[k]:=by
    rw[List.getElem?_eq_getElem (by rw[HSZ.out];exact hlt)]
    rfl
   have hdk:=HD.out s[k] (List.mem_of_getElem? hget)
   unfold Dg at hdk
   have hstep:=zbj hget
   have hle:=wM s.data.toList (k+1)
   have hL:=HLT.out
   have HST:=Lib.hid hstep
   generalize hN:digitsN (s.data.toList.take k) 0=N at*
   have h1:¬9223372036854775807<N*10:=by omega
   have h2:¬9223372036854775807<N*10+((s[k]).toNat-48):=by omega
   go_wp2_with fail
   go_roundg (s.size-(k+1))
   case measure=>have:=HG.out;omega
   case rel=>
    refine⟨k+1,?_,by simp,by omega,rfl,rfl⟩
    rw[HST.out]
    congr 1
    omega
  ·obtain rfl:k=s.size:=by omega
   go_wp2_with fail
   go_ret
   refine⟨?_,rfl⟩
   rw[List.take_of_length_le (by rw[HSZ.out];exact Nat.le_refl _)]
   rfl
theorem vk:∀(l:List UInt8) (a:Nat),(∀c∈l,Dg c)->a<=18446744073709551615->Lib.parseUintM 18446744073709551615 a l=if digitsN l a<=18446744073709551615 then .ok (digitsN l a) else .range
 |[],a,_,ha=>by unfold Lib.parseUintM digitsN;rw[if_pos ha]
 |c::r,a,h,ha=>by
  have hc:=h c (List.mem_cons_self ..)
  have hr:=fun d hd=>h d (List.mem_cons_of_mem _ hd)
  unfold Dg at hc
  have hge:=jd r (a*10+(c.toNat-48))
  have e:digitsN (c::r) a=digitsN r (a*10+(c.toNat-48)):=rfl
  rw[e]
  unfold Lib.parseUintM
  rw[if_pos hc]
  by_cases h1:1844674407370955162<=a
  ·rw[if_pos h1,if_neg (by omega)]
  ·rw[if_neg h1]
   by_cases h2:18446744073709551615<a*10+(c.toNat-48)
   ·rw[if_pos h2,if_neg (by omega)]
   ·rw[if_neg h2]
    exact vk r _ hr (by omega)
theorem za0(s:ByteArray)(h0:0<s.size)(hd:∀c∈s.data.toList,Dg c):(digitsN s.data.toList 0<9223372036854775808->numOf s=(((digitsN s.data.toList 0:Nat):Int),0))/\(¬digitsN s.data.toList 0<9223372036854775808->(numOf s).2≠0):=by
 obtain⟨r,hr⟩:=za6 h0
 have hc:=hd s[0] (by rw[hr];exact List.mem_cons_self ..)
 unfold Dg at hc
 unfold numOf
 have key:Lib.parseIntB 64 s.data.toList=if digitsN s.data.toList 0<9223372036854775808 then .ok ((digitsN s.data.toList 0:Nat):Int) else .range:=by
  have hp:=vk s.data.toList 0 hd (by omega)
  rw[hr] at hp⊢
  unfold Lib.parseIntB
  simp only
  rw[if_neg (show ¬((s[0]).toNat=43\/(s[0]).toNat=45) by omega)]
  unfold Lib.parseUintB
  rw[if_neg (by simp),show(2:Nat) ^ 64-1=18446744073709551615 from rfl,hp]
  have h45:¬(s[0]).toNat=45:=by omega
  have e63:(2:Nat) ^ (64-1)=9223372036854775808:=rfl
  split
  ·rename_i h
   split at h<;>cases h
  ·rename_i h
   split at h
   ·cases h
   ·rw[if_neg (by omega)]
  ·rename_i u h
   split at h
   ·cases h
    by_cases h1:digitsN (s[0]::r) 0<9223372036854775808
    ·rw[if_neg (by rw[e63];omega),if_neg (by simp[h45]),if_neg h45,if_pos h1]
    ·rw[if_pos (by rw[e63];omega),if_neg h1]
   ·cases h
 rw[key]
 constructor
 ·intro h;rw[if_pos h]
 ·intro h;rw[if_neg h];simp
end Go.Proofs.YtonmcakdofbjiaaGreatDoor
