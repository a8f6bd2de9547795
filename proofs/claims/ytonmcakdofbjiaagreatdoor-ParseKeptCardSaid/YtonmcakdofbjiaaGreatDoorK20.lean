/- A part. -/
import Derived.Test.YtonmcakdofbjiaaGreatDoorK19
import Derived.BigRegion
import Derived.Laws.StructEq
import Derived.Test.YtonmcakdofbjiaaGreatDoorK16
import Derived.Test.YtonmcakdofbjiaaGreatDoorK18
import Derived.Deep.Onto
import Derived.StillTailTactics
import Derived.Laws.AppendOwnNone
import Derived.Deep.AppendLies
set_option linter.all false
set_option maxRecDepth 100000
set_option maxHeartbeats 8000000
namespace Go.Proofs.YtonmcakdofbjiaaGreatDoor
open Go.RowKit
theorem gO{B r gb N m:Nat}{o o2:List Hold}{heads h':Bool}{depth kind:Int}{name:ByteArray}{num op at_:Int}{w wx:World}(a:Act)(hE:Ev [] 223 a [(0, .pointer (some ⟨r,0,none⟩)),(3, .pointer (some ⟨N,0,none⟩))])(hM:ShM wx B r gb o2 h')(cN0:wx.cell? ⟨N,0,none⟩=some (.int .i64 depth))(cN1:wx.cell? ⟨N,1,none⟩=some (.int .i64 kind))(hNr:N≠r)(hNg:N≠gb)(hl:o2.length=m)(hm:m<=24)
 (hst:xA o heads ⟨depth,kind,name,num,op,at_⟩=some (o2++[⟨kind,depth,zx kind,0⟩],h')) (ha:Ap r gb w wx):
 zZ.wp Tryz.prog (bodyPost Tryz.prog Tryz.f51 (StandPost w B r gb o heads ⟨depth,kind,name,num,op,at_⟩)) a wx:=by
 rw[zgD]
 refine wp_seq (zd6 (D:=[]) ?_ ?_ hm hl hNr hNg hM ⟨cN0,cN1⟩ a hE)
 ·rintro⟨t',d'⟩ w' hsz hdf hM' hA'
  obtain rfl:d'=[]:=hdf
  obtain⟨a',ha'⟩:∃a':Act,a'=⟨t',[]⟩:=⟨_,rfl⟩
  have hsz:a'.tmps.size=223:=by rw[ha'];exact hsz
  have hdf:a'.defers=[]:=by rw[ha']
  rw[<-ha']
  show(seqR zZ).wp Tryz.prog (bodyPost Tryz.prog Tryz.f51 (StandPost w B r gb o heads ⟨depth,kind,name,num,op,at_⟩)) a' w'
  have hfin:bodyPost Tryz.prog Tryz.f51 (StandPost w B r gb o heads ⟨depth,kind,name,num,op,at_⟩) .ret (a'.put (some 4) (.bool true)) w':=by
   refine⟨hdf, .bool true,?_,ha.trans hA',?_⟩
   ·have:(a'.put (some 4) (.bool true)).tmps.getD 4 undef= .bool true:=by
     show(a'.tmps.setIfInBounds 4 (.bool true)).getD 4 undef=_
     simp[Array.getD_eq_getD_getElem?,Array.getElem?_setIfInBounds,hsz]
    generalize (a'.put (some 4) (.bool true)).tmps=t at this⊢
    have hr:Tryz.f51.results= #[.tmp 4]:=rfl
    rw[Array.getD_eq_getD_getElem?] at this
    simp[results,hr,this]
   ·rw[hst]
    exact⟨rfl,hM'⟩
  generalize bodyPost Tryz.prog Tryz.f51 (StandPost w B r gb o heads ⟨depth,kind,name,num,op,at_⟩)=Q at hfin⊢
  subst ha'
  have HF:=Lib.hid hfin
  clear hfin hdf
  simp only[zZ,yj,zF,st0,seqR,Tryz.f51,Option.getD_some]
  go_wp2
  exact HF.out
 ·intro d v c a w h
  refine⟨?_,h.2⟩
  have h1:=h.1
  cases d<;>exact h1
theorem stand_pop{B r gb N:Nat}{o o1:List Hold}{heads h':Bool}{depth kind:Int}{name:ByteArray}{num op at_:Int}{w wx:World}(hM:ShM wx B r gb o1 h')(cN0:wx.cell? ⟨N,0,none⟩=some (.int .i64 depth))(cN1:wx.cell? ⟨N,1,none⟩=some (.int .i64 kind))(hNr:N≠r)(hNg:N≠gb)(hd:∀(j:Nat) (x:Hold),o1[j]? =some x->x.depth=j+1)(ho:o1.length<=24)
 (hst:xA o heads ⟨depth,kind,name,num,op,at_⟩=some (popF depth o1++[⟨kind,depth,zx kind,0⟩],h')) (ha:Ap r gb w wx) (u1 u2 u5 u6 u7 u8 u9 u10 u11 u12 u13 u14 u15 u16 u17 u18 u19 u20 u21 u22 u23 u24 u25 u26 u27 u28 u29 u30 u31 u32 u33 u34 u35 u36 u37 u38 u39 u40 u41 u42 u43 u44 u45 u46 u47 u48 u49 u50 u51 u52 u53 u54 u55 u56 u57 u58 u59 u60 u61 u62 u63 u64 u65 u66 u67 u68 u69 u70 u71 u72 u73 u74 u75 u76 u77 u78 u79 u80 u81 u82 u83 u84 u85 u86 u87 u88 u89 u90 u91 u92 u93 u94 u95 u96 u97 u98 u99 u100 u101 u102 u103 u104 u105 u106 u107 u108 u109 u110 u111 u112 u113 u114 u115 u116 u117 u118 u119 u120 u121 u122 u123 u124 u125 u126 u127 u128 u129 u130 u131 u132 u133 u134 u135 u136 u137 u138 u139 u140 u141 u142 u143 u144 u145 u146 u147 u148 u149 u150 u151 u152 u153 u154 u155 u156 u157 u158 u159 u160 u161 u162 u163 u164 u165 u166 u167 u168 u169 u170 u171 u172 u173 u174 u175 u176 u177 u178 u179 u180 u181 u182 u183 u184 u185 u186 u187 u188 u189 u190 u191 u192 u193 u194 u195 u196 u197 u198 u199 u200 u201 u202 u203 u204 u205 u206 u207 u208 u209 u210 u211 u212 u213 u214 u215 u216 u217 u218 u219 u220 u221 u222:Value):
 yj.wp Tryz.prog (bodyPost Tryz.prog Tryz.f51 (StandPost w B r gb o heads ⟨depth,kind,name,num,op,at_⟩)) ⟨(.pointer (some ⟨r,0,none⟩)::u1::u2:: .pointer (some ⟨N,0,none⟩):: .bool false::u5::u6::u7::u8::u9::u10::u11::u12::u13::u14::u15::u16::u17::u18::u19::u20::u21::u22::u23::u24::u25::u26::u27::u28::u29::u30::u31::u32::u33::u34::u35::u36::u37::u38::u39::u40::u41::u42::u43::u44::u45::u46::u47::u48::u49::u50::u51::u52::u53::u54::u55::u56::u57::u58::u59::u60::u61::u62::u63::u64::u65::u66::u67::u68::u69::u70::u71::u72::u73::u74::u75::u76::u77::u78::u79::u80::u81::u82::u83::u84::u85::u86::u87::u88::u89::u90::u91::u92::u93::u94::u95::u96::u97::u98::u99::u100::u101::u102::u103::u104::u105::u106::u107::u108::u109::u110::u111::u112::u113::u114::u115::u116::u117::u118::u119::u120::u121::u122::u123::u124::u125::u126::u127::u128::u129::u130::u131::u132::u133::u134::u135::u136::u137::u138::u139::u140::u141::u142::u143::u144::u145::u146::u147::u148::u149::u150::u151::u152::u153::u154::u155::u156::u157::u158::u159::u160::u161::u162::u163::u164::u165::u166::u167::u168::u169::u170::u171::u172::u173::u174::u175::u176::u177::u178::u179::u180::u181::u182::u183::u184::u185::u186::u187::u188::u189::u190::u191::u192::u193::u194::u195::u196::u197::u198::u199::u200::u201::u202::u203::u204::u205::u206::u207::u208::u209::u210::u211::u212::u213::u214::u215::u216::u217::u218::u219::u220::u221::u222::[]).toArray,[]⟩ wx:=by
 have HM:=Lib.hid hM
 have HD:=Lib.hid hd
 have HA:=Lib.hid ha
 have HS:=Lib.hid hst
 have hng:=hM.ne
 have hNl:=World.block_lt_of_cell? wx ⟨N,0,none⟩ cN0
 clear hM hd ha hst
 generalize hQ:bodyPost Tryz.prog Tryz.f51 (StandPost w B r gb o heads ⟨depth,kind,name,num,op,at_⟩)=Q
 have HQ:=Lib.hid hQ
 clear hQ
 rw[zgC]
 refine wp_seq ?_
 generalize hY:zZ.wp Tryz.prog Q=Y
 have HY:=Lib.hid hY
 clear hY
 simp only[yj,zF,st0,seqL,seqR,Tryz.f51,Option.getD_some]
 go_wp2_with fail
 go_loopg [168] o1.length (fun g x4 wq=>∃m:Nat,m<=o1.length/\g=m/\ShM wq B r gb (o1.take m) h'/\Ap r gb wx wq/\∀(j:Nat) (x:Hold),m<=j->o1[j]? =some x->depth<=x.depth)
 case atStart=>
  refine⟨o1.length,Nat.le_refl _,rfl,by rw[List.take_length];exact HM.out,Ap.refl _,fun j x hj hx=>?_⟩
  have:=(List.getElem?_eq_some_iff.1 hx).1
  omega
 case round=>
  obtain⟨m,hm,hg,hMq,hAq,hbe⟩:=hrel
  have hlen:(o1.take m).length=m:=by simp;omega
  have c0:=hMq.c0
  rw[hlen] at c0
  have dN0:=(hAq.cell hNl hNr hNg).trans cN0
  have dN1:=(hAq.cell hNl hNr hNg).trans cN1
  have HMQ:=Lib.hid hMq
  have HAQ:=Lib.hid hAq
  have HBE:=Lib.hid hbe
  have HG:=Lib.hid hg
  clear hMq hAq hbe hg
  cases m with
  |zero=>
   clear hlen
   go_wp2_with fail
   go_quiet (fail)
   go_wp2_with fail
   have hps:popF depth o1=o1.take 0:=zaN (Nat.zero_le _) HBE.out (.inl rfl)
   rw[<-HY.out,<-HQ.out]
   exact gO (m:=0) _ ⟨rfl,rfl,by simp[Act.eval]⟩ (HMQ.out.drewN nq) dN0 dN1 hNr hNg (by simp) (by omega) (by rw[<-hps];exact HS.out) (HA.out.trans (HAQ.out.drewN nq))
  |succ i=>
   clear hlen
   have hil:i<o1.length:=by omega
   obtain⟨x,hx⟩:∃x,o1[i]? =some x:=⟨_,List.getElem?_eq_getElem hil⟩
   have hxt:(o1.take (i+1))[i]? =some x:=by rw[List.getElem?_take,if_pos (by omega)];exact hx
   have q1:=HMQ.out.depth hxt
   have f0:=HMQ.out.fs 0
   have hxd:=HD.out i x hx
   have hp1:(0:Int)<((i+1:Nat):Int):=by omega
   have hp2:(0:Int)<=(i:Int):=by omega
   have hp3:(i:Int)<((i+1:Nat):Int):=by omega
   rw[hxd] at q1
   have HX:=Lib.hid hx
   have HXD:=Lib.hid hxd
   clear hx hxt hxd
   by_cases hdx:depth<=(i:Int)+1
   ·have hdd:decide (depth<=(i:Int)+1)=true:=by simp[hdx]
    have HDX:=Lib.hid hdx
    clear hdx
    go_wp2_with fail
    go_quiet (fail)
    go_wp2_with fail
    have gW:wr.drewN nq=wr.drewN nq:=rfl
    have HMW:=Lib.hid (HMQ.out.drewN nq)
    have HAW:=Lib.hid (HAQ.out.drewN nq)
    have cW0:(wr.drewN nq).cell? ⟨r,0,none⟩=some (.slice (some ⟨gb,0,none⟩) (i+1) 26):=c0
    have fW0:(wr.drewN nq).frozen? ⟨r,0,none⟩=false:=f0
    clear gW c0 f0 q1 dN0 dN1 HMQ HAQ
    generalize wr.drewN nq=W at HMW HAW cW0 fW0⊢
    go_region
    go_wp2_with fail
    go_roundg i
    case measure=>have:=HG.out;omega
    case rel=>
     have hlm:(o1.take (i+1)).length=i+1:=by simp;omega
     have h1:=HMW.out.trunc (m:=i) (by omega)
     rw[List.take_take,show min i (i+1)=i from by omega] at h1
     refine⟨i,by omega,rfl,h1.kept fun _ _=>rfl,((HAW.out.set (a:=⟨r,0,none⟩) (.inl rfl) _).drewN 1),fun j y hj hy=>?_⟩
     by_cases e:j=i
     ·subst e
      rw[HX.out] at hy
      cases hy
      have h3:=HDX.out
      have h4:=HXD.out
      omega
     ·exact HBE.out j y (by omega) hy
   ·have hdd:decide (depth<=(i:Int)+1)=false:=by simp[hdx]
    have HDX:=Lib.hid hdx
    clear hdx
    go_wp2_with fail
    go_quiet (fail)
    go_wp2_with fail
    have hps:popF depth o1=o1.take (i+1):=zaN hm HBE.out (.inr ⟨x,by simpa using HX.out,by have:=HDX.out;have:=HXD.out;omega⟩)
    rw[<-HY.out,<-HQ.out]
    exact gO (m:=i+1) _ ⟨rfl,rfl,by simp[Act.eval]⟩ (HMQ.out.drewN nq) dN0 dN1 hNr hNg (by simp;omega) (by omega) (by rw[<-hps];exact HS.out) (HA.out.trans (HAQ.out.drewN nq))
theorem stand_tail{B r gb N:Nat}{o o1:List Hold}{heads:Bool}{depth kind:Int}{name:ByteArray}{num op at_:Int}{w wx:World}(hM:ShM wx B r gb o1 heads)(cN0:wx.cell? ⟨N,0,none⟩=some (.int .i64 depth))(cN1:wx.cell? ⟨N,1,none⟩=some (.int .i64 kind))(hNr:N≠r)(hNg:N≠gb)(hd:∀(j:Nat) (x:Hold),o1[j]? =some x->x.depth=j+1)(ho:o1.length<=24)
 (ht:takeF o heads ⟨depth,kind,name,num,op,at_⟩=some o1) (hf:fieldsB ⟨depth,kind,name,num,op,at_⟩=true) (ha:Ap r gb w wx) (u1 u2 u5 u6 u7 u8 u9 u10 u11 u12 u13 u14 u15 u16 u17 u18 u19 u20 u21 u22 u23 u24 u25 u26 u27 u28 u29 u30 u31 u32 u33 u34 u35 u36 u37 u38 u39 u40 u41 u42 u43 u44 u45 u46 u47 u48 u49 u50 u51 u52 u53 u54 u55 u56 u57 u58 u59 u60 u61 u62 u63 u64 u65 u66 u67 u68 u69 u70 u71 u72 u73 u74 u75 u76 u77 u78 u79 u80 u81 u82 u83 u84 u85 u86 u87 u88 u89 u90 u91 u92 u93 u94 u95 u96 u97 u98 u99 u100 u101 u102 u103 u104 u105 u106 u107 u108 u109 u110 u111 u112 u113 u114 u115 u116 u117 u118 u119 u120 u121 u122 u123 u124 u125 u126 u127 u128 u129 u130 u131 u132 u133 u134 u135 u136 u137 u138 u139 u140 u141 u142 u143 u144 u145 u146 u147 u148 u149 u150 u151 u152 u153 u154 u155 u156 u157 u158 u159 u160 u161 u162 u163 u164 u165 u166 u167 u168 u169 u170 u171 u172 u173 u174 u175 u176 u177 u178 u179 u180 u181 u182 u183 u184 u185 u186 u187 u188 u189 u190 u191 u192 u193 u194 u195 u196 u197 u198 u199 u200 u201 u202 u203 u204 u205 u206 u207 u208 u209 u210 u211 u212 u213 u214 u215 u216 u217 u218 u219 u220 u221 u222:Value):
 zF.wp Tryz.prog (bodyPost Tryz.prog Tryz.f51 (StandPost w B r gb o heads ⟨depth,kind,name,num,op,at_⟩)) ⟨(.pointer (some ⟨r,0,none⟩)::u1::u2:: .pointer (some ⟨N,0,none⟩):: .bool false::u5::u6::u7::u8::u9::u10::u11::u12::u13::u14::u15::u16::u17::u18::u19::u20::u21::u22::u23::u24::u25::u26::u27::u28::u29::u30::u31::u32::u33::u34::u35::u36::u37::u38::u39::u40::u41::u42::u43::u44::u45::u46::u47::u48::u49::u50::u51::u52::u53::u54::u55::u56::u57::u58::u59::u60::u61::u62::u63::u64::u65::u66::u67::u68::u69::u70::u71::u72::u73::u74::u75::u76::u77::u78::u79::u80::u81::u82::u83::u84::u85::u86::u87::u88::u89::u90::u91::u92::u93::u94::u95::u96::u97::u98::u99::u100::u101::u102::u103::u104::u105::u106::u107::u108::u109::u110::u111::u112::u113::u114::u115::u116::u117::u118::u119::u120::u121::u122::u123::u124::u125::u126::u127::u128::u129::u130::u131::u132::u133::u134::u135::u136::u137::u138::u139::u140::u141::u142::u143::u144::u145::u146::u147::u148::u149::u150::u151::u152::u153::u154::u155::u156::u157::u158::u159::u160::u161::u162::u163::u164::u165::u166::u167::u168::u169::u170::u171::u172::u173::u174::u175::u176::u177::u178::u179::u180::u181::u182::u183::u184::u185::u186::u187::u188::u189::u190::u191::u192::u193::u194::u195::u196::u197::u198::u199::u200::u201::u202::u203::u204::u205::u206::u207::u208::u209::u210::u211::u212::u213::u214::u215::u216::u217::u218::u219::u220::u221::u222::[]).toArray,[]⟩ wx:=by
 have HM:=Lib.hid hM
 have HD:=Lib.hid hd
 have HA:=Lib.hid ha
 have hst:xA o heads ⟨depth,kind,name,num,op,at_⟩=some (popF depth o1++[⟨kind,depth,zx kind,0⟩],if kind=0\/kind=1 then heads else false):=by
  unfold xA
  rw[if_neg (by simp[hf]),ht]
 have cs1:=hM.c1
 have fs1:=hM.fs 1
 clear hM hd ha ht hf
 generalize hQ:bodyPost Tryz.prog Tryz.f51 (StandPost w B r gb o heads ⟨depth,kind,name,num,op,at_⟩)=Q
 have HQ:=Lib.hid hQ
 clear hQ
 rw[zeB]
 refine wp_seq ?_
 generalize hY:yj.wp Tryz.prog Q=Y
 have HY:=Lib.hid hY
 clear hY
 simp only[zF,st0,seqL,seqR,Tryz.f51,Option.getD_some]
 by_cases k0:kind=0
 ·subst k0
  rw[if_pos (.inl rfl)] at hst
  have HS:=Lib.hid hst
  clear hst
  go_wp2_with fail
  rw[<-HY.out,<-HQ.out]
  exact stand_pop HM.out cN0 cN1 hNr hNg HD.out ho HS.out HA.out _ _ _ _ _ _ _ _ _ _ _ _ _ _ _ _ _ _ _ _ _ _ _ _ _ _ _ _ _ _ _ _ _ _ _ _ _ _ _ _ _ _ _ _ _ _ _ _ _ _ _ _ _ _ _ _ _ _ _ _ _ _ _ _ _ _ _ _ _ _ _ _ _ _ _ _ _ _ _ _ _ _ _ _ _ _ _ _ _ _ _ _ _ _ _ _ _ _ _ _ _ _ _ _ _ _ _ _ _ _ _ _ _ _ _ _ _ _ _ _ _ _ _ _ _ _ _ _ _ _ _ _ _ _ _ _ _ _ _ _ _ _ _ _ _ _ _ _ _ _ _ _ _ _ _ _ _ _ _ _ _ _ _ _ _ _ _ _ _ _ _ _ _ _ _ _ _ _ _ _ _ _ _ _ _ _ _ _ _ _ _ _ _ _ _ _ _ _ _ _ _ _ _ _ _ _ _ _ _ _ _ _ _ _ _ _ _ _ _ _
 ·have k0b:(kind==0)=false:=by simp[k0]
  have k0c:(kind !=0)=true:=by simp[k0]
  by_cases k1:kind=1
  ·subst k1
   rw[if_pos (.inr rfl)] at hst
   have HS:=Lib.hid hst
   clear hst
   go_wp2_with fail
   rw[<-HY.out,<-HQ.out]
   exact stand_pop HM.out cN0 cN1 hNr hNg HD.out ho HS.out HA.out _ _ _ _ _ _ _ _ _ _ _ _ _ _ _ _ _ _ _ _ _ _ _ _ _ _ _ _ _ _ _ _ _ _ _ _ _ _ _ _ _ _ _ _ _ _ _ _ _ _ _ _ _ _ _ _ _ _ _ _ _ _ _ _ _ _ _ _ _ _ _ _ _ _ _ _ _ _ _ _ _ _ _ _ _ _ _ _ _ _ _ _ _ _ _ _ _ _ _ _ _ _ _ _ _ _ _ _ _ _ _ _ _ _ _ _ _ _ _ _ _ _ _ _ _ _ _ _ _ _ _ _ _ _ _ _ _ _ _ _ _ _ _ _ _ _ _ _ _ _ _ _ _ _ _ _ _ _ _ _ _ _ _ _ _ _ _ _ _ _ _ _ _ _ _ _ _ _ _ _ _ _ _ _ _ _ _ _ _ _ _ _ _ _ _ _ _ _ _ _ _ _ _ _ _ _ _ _ _ _ _ _ _ _ _ _ _ _ _ _
  ·have k1b:(kind==1)=false:=by simp[k1]
   have k1c:(kind !=1)=true:=by simp[k1]
   rw[if_neg (by omega)] at hst
   have HS:=Lib.hid hst
   clear hst k0 k1
   go_wp2_with fail
   rw[<-HY.out,<-HQ.out]
   have c0':(wx.setCell ⟨r,1,none⟩ (.bool false)).cell? ⟨N,0,none⟩=some (.int .i64 depth):=by simp[go_sem,cN0,hNr]
   have c1':(wx.setCell ⟨r,1,none⟩ (.bool false)).cell? ⟨N,1,none⟩=some (.int .i64 kind):=by simp[go_sem,cN1,hNr]
   exact stand_pop (HM.out.setHeads false) c0' c1' hNr hNg HD.out ho HS.out (HA.out.set (a:=⟨r,1,none⟩) (.inl rfl) _) _ _ _ _ _ _ _ _ _ _ _ _ _ _ _ _ _ _ _ _ _ _ _ _ _ _ _ _ _ _ _ _ _ _ _ _ _ _ _ _ _ _ _ _ _ _ _ _ _ _ _ _ _ _ _ _ _ _ _ _ _ _ _ _ _ _ _ _ _ _ _ _ _ _ _ _ _ _ _ _ _ _ _ _ _ _ _ _ _ _ _ _ _ _ _ _ _ _ _ _ _ _ _ _ _ _ _ _ _ _ _ _ _ _ _ _ _ _ _ _ _ _ _ _ _ _ _ _ _ _ _ _ _ _ _ _ _ _ _ _ _ _ _ _ _ _ _ _ _ _ _ _ _ _ _ _ _ _ _ _ _ _ _ _ _ _ _ _ _ _ _ _ _ _ _ _ _ _ _ _ _ _ _ _ _ _ _ _ _ _ _ _ _ _ _ _ _ _ _ _ _ _ _ _ _ _ _ _ _ _ _ _ _ _ _ _ _ _ _ _
theorem stand_refuse{w w':World}{B r gb:Nat}{o:List Hold}{heads:Bool}{n:Nd}(hn:takeF o heads n=none)(ha:Ap r gb w w'):StandPost w B r gb o heads n (.returned (.bool false)) w':=by
 refine⟨ha,?_⟩
 have:xA o heads n=none:=by
  unfold xA
  split
  ·rfl
  ·rw[hn]
 rw[this]
theorem set_depth{o:List Hold}(hd:∀(j:Nat) (x:Hold),o[j]? =some x->x.depth=j+1){u:Nat}{g g':Hold}(hg:o[u]? =some g)(he:g'.depth=g.depth):∀(j:Nat) (x:Hold),(o.set u g')[j]? =some x->x.depth=j+1:=by
 intro j x hx
 rw[List.getElem?_set] at hx
 split at hx
 ·rename_i e
  split at hx
  ·cases hx;subst e;rw[he];exact hd u g hg
  ·cases hx
 ·exact hd j x hx
theorem res51(t:Array Value)(b:Bool)(h:t.getD 4 undef= .bool b)(w:World):(results Tryz.f51 t).run Tryz.prog w= .ok (.bool b) w:=by
 have hr:Tryz.f51.results= #[.tmp 4]:=rfl
 rw[Array.getD_eq_getD_getElem?] at h
 simp[results,hr,h]
noncomputable def st3:Code:=seqL (seqR (seqR st0))
theorem zjp:st0= .seq (seqL st0) (.seq (seqL (seqR st0)) (.seq st3 zF)):=rfl
def F3(r N:Nat)(depth kind:Int)(name:ByteArray)(num op at_:Int):Act:=⟨((.pointer (some ⟨r,0,none⟩))::(.agg #[.int .i64 depth, .int .i64 kind, .string name, .int .i64 num, .int .i64 op, .int .i64 at_])::undef::(.pointer (some ⟨N,0,none⟩))::(.bool false)::undef::undef::undef::undef::(.agg #[.int .i64 depth, .int .i64 kind, .string name, .int .i64 num, .int .i64 op, .int .i64 at_])::(.bool true)::(.bool false)::undef::undef::undef::undef::undef::undef::undef::undef::undef::undef::undef::undef::undef::undef::undef::undef::undef::undef::undef::undef::undef::undef::undef::undef::undef::undef::undef::undef::undef::undef::undef::undef::undef::undef::undef::undef::undef::undef::undef::undef::undef::undef::undef::undef::undef::undef::undef::undef::undef::undef::undef::undef::undef::undef::undef::undef::undef::undef::undef::undef::undef::undef::undef::undef::undef::undef::undef::undef::undef::undef::undef::undef::undef::undef::undef::undef::undef::undef::undef::undef::undef::undef::undef::undef::undef::undef::undef::undef::undef::undef::undef::undef::undef::undef::undef::undef::undef::undef::undef::undef::undef::undef::undef::undef::undef::undef::undef::undef::undef::undef::undef::undef::undef::undef::undef::undef::undef::undef::undef::undef::undef::undef::undef::undef::undef::undef::undef::undef::undef::undef::undef::undef::undef::undef::undef::undef::undef::undef::undef::undef::undef::undef::undef::undef::undef::undef::undef::undef::undef::undef::undef::undef::undef::undef::undef::undef::undef::undef::undef::undef::undef::undef::undef::undef::undef::undef::undef::undef::undef::undef::undef::undef::undef::undef::undef::undef::undef::undef::undef::undef::undef::undef::undef::undef::undef::undef::undef::undef::undef::undef::undef::undef::undef::undef::undef::undef::undef::undef::undef::undef::undef::undef::undef::undef::undef::undef::undef::undef::undef::undef::undef::[]).toArray,[]⟩
structure Hd (w w2:World) (B r gb N:Nat) (o:List Hold) (heads:Bool) (depth kind:Int):Prop where
 ap:Ap r gb w w2
 shm:ShM w2 B r gb o heads
 c0:w2.cell? ⟨N,0,none⟩=some (.int .i64 depth)
 c1:w2.cell? ⟨N,1,none⟩=some (.int .i64 kind)
 nr:N≠r
 ng:N≠gb
theorem zdb{B r gb:Nat}{o:List Hold}{heads:Bool}(depth kind:Int)(name:ByteArray)(num op at_:Int)(hs:name.size<=140737488355328)(w:World)(h:ShM w B r gb o heads)
 (hk:fieldsB ⟨depth,kind,name,num,op,at_⟩=true->∀w2 N,Hd w w2 B r gb N o heads depth kind->st3.wp Tryz.prog (Exit.then (zF.wp Tryz.prog (bodyPost Tryz.prog Tryz.f51 (StandPost w B r gb o heads ⟨depth,kind,name,num,op,at_⟩))) (bodyPost Tryz.prog Tryz.f51 (StandPost w B r gb o heads ⟨depth,kind,name,num,op,at_⟩))) (F3 r N depth kind name num op at_) w2):
 Calls Tryz.prog 51 #[.pointer (some ⟨r,0,none⟩), .agg #[.int .i64 depth, .int .i64 kind, .string name, .int .i64 num, .int .i64 op, .int .i64 at_]] w (StandPost w B r gb o heads ⟨depth,kind,name,num,op,at_⟩):=by
 have HM:=Lib.hid h
 have hf:=zdV ⟨depth,kind,name,num,op,at_⟩ hs
 simp only[Nd.cells] at hf
 have hlt:=h.s.lt
 have hgt:gb<w.heap.size:=by obtain⟨F,h1,_⟩:=h.row;exact h1.lt
 cases hfb:fieldsB ⟨depth,kind,name,num,op,at_⟩ with
 |false=>
  have hst:xA o heads ⟨depth,kind,name,num,op,at_⟩=none:=by simp[xA,hfb]
  rw[hfb] at hf
  clear hfb h hk hlt hgt
  go_enter Tryz.func51,Tryz.ntmps51
  go_wp2_with (go_at_call 95;refine(hf _).mono ?_;rintro e w1 ⟨rfl,k1⟩)
  go_ret
  exact⟨(Ap.of_kin ((Kin.refl w).alloc _)).trans (Ap.of_kin k1),by rw[hst];rfl⟩
 |true=>
  rw[hfb] at hf
  have HK:=Lib.hid (hk hfb)
  clear hfb h hk
  go_enter Tryz.func51,Tryz.ntmps51
  generalize hQ:bodyPost Tryz.prog Tryz.f51 (StandPost w B r gb o heads ⟨depth,kind,name,num,op,at_⟩)=Q at HK⊢
  have HQ:=Lib.hid hQ
  clear hQ
  change Code.wp Tryz.prog st0 Q _ _
  rw[zjp]
  refine wp_seq ?_
  generalize hY:Code.wp Tryz.prog ((seqL (seqR st0)).seq (st3.seq zF)) Q=Y
  have HY:=Lib.hid hY
  clear hY
  simp only[st0,seqL,Tryz.f51,Option.getD_some]
  go_wp2
  rw[<-HY.out]
  refine wp_seq ?_
  have hx:Code.wp Tryz.prog (st3.seq zF) Q=Code.wp Tryz.prog (st3.seq zF) Q:=rfl
  generalize hZ:Code.wp Tryz.prog (st3.seq zF) Q=Z
  have HZ:=Lib.hid hZ
  clear hZ hx
  simp only[st0,seqL,seqR,Tryz.f51,Option.getD_some]
  have k0:=(Kin.refl w).alloc (Obj.cells #[Value.int IntKind.i64 depth,Value.int IntKind.i64 kind,Value.string name,Value.int IntKind.i64 num,Value.int IntKind.i64 op,Value.int IntKind.i64 at_] 50)
  have hS:=xC w 50 (.int .i64 depth) (.int .i64 kind) (.string name) (.int .i64 num) (.int .i64 op) (.int .i64 at_)
  go_wp2_with (go_at_call 95;refine(hf _).mono ?_;rintro e w1 ⟨rfl,k1⟩)
  rw[<-HZ.out]
  refine wp_seq ?_
  have k2:=k0.trans k1
  exact HK.out w1 w.heap.size ⟨Ap.of_kin k2,HM.out.kin k2,(k1.cell (by simp)).trans hS.c0,(k1.cell (by simp)).trans hS.c1,by omega,by omega⟩
theorem zbI{B r gb N:Nat}{o:List Hold}{heads:Bool}{st:List Opn}{begun:Bool}{depth kind:Int}{name:ByteArray}{num op at_:Int}{w w2:World}(hI:ShI o heads st begun)(ho:o.length<=24)(hf:fieldsB ⟨depth,kind,name,num,op,at_⟩=true)(hH:Hd w w2 B r gb N o heads depth kind){u:Nat}(hwi:qc o=some u):st3.wp Tryz.prog (Exit.then (zF.wp Tryz.prog (bodyPost Tryz.prog Tryz.f51 (StandPost w B r gb o heads ⟨depth,kind,name,num,op,at_⟩))) (bodyPost Tryz.prog Tryz.f51 (StandPost w B r gb o heads ⟨depth,kind,name,num,op,at_⟩))) (F3 r N depth kind name num op at_) w2:=by
 have H:=Lib.hid hH
 have HI:=Lib.hid hI
 have HF:=Lib.hid hf
 have cN0:=hH.c0
 have cN1:=hH.c1
 have hNr:=hH.nr
 have hNg:=hH.ng
 have hng:=hH.shm.ne
 have hw52:=kA w2 hH.shm
 clear hH hI hf
 unfold F3
 generalize hQ:bodyPost Tryz.prog Tryz.f51 (StandPost w B r gb o heads ⟨depth,kind,name,num,op,at_⟩)=Q
 have HQ:=Lib.hid hQ
 clear hQ
 generalize hY:zF.wp Tryz.prog Q=Y
 have HY:=Lib.hid hY
 clear hY
 obtain⟨⟨g,hg,hgw⟩,hlater⟩:=xx hwi
 clear hlater
 rw[hwi] at hw52
 have e1:ixV (some u)=(u:Int):=rfl
 rw[e1] at hw52
 clear e1
 have c0:=H.out.shm.c0
 have hgd:=HI.out.depth u g hg
 have hgs:=HI.out.small u g hg
 have hul:=(List.getElem?_eq_some_iff.1 hg).1
 have d1:=H.out.shm.depth hg
 have b1:=H.out.shm.blocks hg
 obtain⟨v,v1,hva⟩:=H.out.shm.wants hg
 have f2:=H.out.shm.fr (u*4+2)
 have f3:=H.out.shm.fr (u*4+3)
 rw[hgd] at d1
 obtain⟨x,rest,hxr⟩:∃x rest,g.wants=x::rest:=by
  cases hgw2:g.wants with
  |nil=>rw[hgw2] at hgw;cases hgw
  |cons x rest=>exact⟨x,rest,rfl⟩
 rw[hxr] at hva
 obtain⟨gw,off,cap,rfl,hcap,x1,hwt,hwt2⟩:=hva.tail
 have HWT:=Lib.hid hwt
 have HWT2:=Lib.hid hwt2
 have hu0:(0:Int)<=u:=by omega
 have hr1:(0:Int)<((rest.length+1:Nat):Int):=by omega
 have HTK:Hid (takeF o heads ⟨depth,kind,name,num,op,at_⟩=if depth≠(u:Int)+1+1\/(x=0/\zX kind=false)\/(x=1/\kind≠9) then none else some (o.set u {g with wants:=rest,blocks:=if x=1 then g.blocks+1 else g.blocks})):=by
  show _=_
  unfold takeF
  simp only[hwi,hg,hxr,hgd]
 have HG:=Lib.hid hg
 clear hva hwt hwt2 hgw hwi hxr hgd hg
 simp only[st3,st0,seqL,seqR,Tryz.f51,Option.getD_some]
 by_cases hd:depth=(u:Int)+1+1
 ·have hd1:(depth==(u:Int)+1+1)=true:=by simp[hd]
  have hd2:(depth !=(u:Int)+1+1)=false:=by simp[hd]
  have hdd:¬depth≠(u:Int)+1+1:=by simp[hd]
  clear hd
  by_cases hx0:x=0
  ·subst hx0
   cases hke:zX kind with
   |false=>
    have hn:takeF o heads ⟨depth,kind,name,num,op,at_⟩=none:=by rw[HTK.out,if_pos (.inr (.inl ⟨rfl,hke⟩))]
    have HN:=Lib.hid hn
    clear hn hdd
    go_wp2_with (go_at_call 52;refine hw52.mono ?_;rintro e w3 ⟨rfl,rfl⟩)
    go_quiet ((go_at_call 96;exact Calls.quiet_of_same (isExpr_any _ _)))
    go_wp2
    rw[<-HQ.out]
    exact⟨rfl,_,res51 _ false rfl _,stand_refuse HN.out (H.out.ap.trans ((Ap.refl _).drewN _))⟩
   |true=>
    have hn:takeF o heads ⟨depth,kind,name,num,op,at_⟩=some (o.set u {g with wants:=rest}):=by
     rw[HTK.out,if_neg (by simp[hke];omega)];simp
    have HN:=Lib.hid hn
    clear hn hdd
    go_wp2_with (go_at_call 52;refine hw52.mono ?_;rintro e w3 ⟨rfl,rfl⟩)
    go_quiet ((go_at_call 96;exact Calls.quiet_of_same (isExpr_any _ _)))
    go_wp2
    all_goals rw[<-HY.out,<-HQ.out]
    all_goals refine stand_tail ((H.out.shm.drewN nq).setWants (l:=rest) HG.out (zR.kept ?_ fun _ _ _ _=>rfl)) (by simp[go_sem,cN0,hNg]) (by simp[go_sem,cN1,hNg]) H.out.nr H.out.ng (set_depth (g':={g with wants:=rest}) HI.out.depth HG.out rfl) ((by simp;omega)) HN.out HF.out (H.out.ap.trans (((Ap.refl _).drewN nq).set (a:=⟨gb,_,none⟩) (.inr rfl) _)) _ _ _ _ _ _ _ _ _ _ _ _ _ _ _ _ _ _ _ _ _ _ _ _ _ _ _ _ _ _ _ _ _ _ _ _ _ _ _ _ _ _ _ _ _ _ _ _ _ _ _ _ _ _ _ _ _ _ _ _ _ _ _ _ _ _ _ _ _ _ _ _ _ _ _ _ _ _ _ _ _ _ _ _ _ _ _ _ _ _ _ _ _ _ _ _ _ _ _ _ _ _ _ _ _ _ _ _ _ _ _ _ _ _ _ _ _ _ _ _ _ _ _ _ _ _ _ _ _ _ _ _ _ _ _ _ _ _ _ _ _ _ _ _ _ _ _ _ _ _ _ _ _ _ _ _ _ _ _ _ _ _ _ _ _ _ _ _ _ _ _ _ _ _ _ _ _ _ _ _ _ _ _ _ _ _ _ _ _ _ _ _ _ _ _ _ _ _ _ _ _ _ _ _ _ _ _ _ _ _ _ _ _ _ _ _ _ _ _ _
    all_goals first|exact HWT.out|exact HWT2.out (by omega)
  ·have hx0b:(x==0)=false:=by simp[hx0]
   by_cases hx1:x=1
   ·subst hx1
    by_cases hk9:kind=9
    ·have hk1:(kind==9)=true:=by simp[hk9]
     have hk2:(kind !=9)=false:=by simp[hk9]
     have hn:takeF o heads ⟨depth,kind,name,num,op,at_⟩=some ((o.set u {g with wants:=rest}).set u { {g with wants:=rest} with blocks:=g.blocks+1}):=by
      rw[HTK.out,if_neg (by simp[hk9];omega)];simp
     have HN:=Lib.hid hn
     clear hn hdd hx0 hk9
     go_wp2_with (go_at_call 52;refine hw52.mono ?_;rintro e w3 ⟨rfl,rfl⟩)
     go_quiet ((go_at_call 96;exact Calls.quiet_of_same (isExpr_any _ _)))
     go_wp2
     all_goals rw[<-HY.out,<-HQ.out]
     all_goals refine stand_tail (((H.out.shm.drewN nq).setWants (l:=rest) HG.out (zR.kept ?_ fun _ _ _ _=>rfl)).setBlocks (g:={g with wants:=rest}) (List.getElem?_set_self hul) (g.blocks+1)) (by simp[go_sem,cN0,hNg]) (by simp[go_sem,cN1,hNg]) H.out.nr H.out.ng (set_depth (u:=u) (g:={g with wants:=rest}) (set_depth (g':={g with wants:=rest}) HI.out.depth HG.out rfl) (List.getElem?_set_self hul) rfl) ((by simp;omega)) HN.out HF.out (H.out.ap.trans ((((Ap.refl _).drewN nq).set (a:=⟨gb,u*4+2,none⟩) (.inr rfl) _).set (a:=⟨gb,u*4+3,none⟩) (.inr rfl) _)) _ _ _ _ _ _ _ _ _ _ _ _ _ _ _ _ _ _ _ _ _ _ _ _ _ _ _ _ _ _ _ _ _ _ _ _ _ _ _ _ _ _ _ _ _ _ _ _ _ _ _ _ _ _ _ _ _ _ _ _ _ _ _ _ _ _ _ _ _ _ _ _ _ _ _ _ _ _ _ _ _ _ _ _ _ _ _ _ _ _ _ _ _ _ _ _ _ _ _ _ _ _ _ _ _ _ _ _ _ _ _ _ _ _ _ _ _ _ _ _ _ _ _ _ _ _ _ _ _ _ _ _ _ _ _ _ _ _ _ _ _ _ _ _ _ _ _ _ _ _ _ _ _ _ _ _ _ _ _ _ _ _ _ _ _ _ _ _ _ _ _ _ _ _ _ _ _ _ _ _ _ _ _ _ _ _ _ _ _ _ _ _ _ _ _ _ _ _ _ _ _ _ _ _ _ _ _ _ _ _ _ _ _ _ _ _ _ _ _ _
     all_goals first|exact HWT.out|exact HWT2.out (by omega)
    ·have hk1:(kind==9)=false:=by simp[hk9]
     have hk2:(kind !=9)=true:=by simp[hk9]
     have hn:takeF o heads ⟨depth,kind,name,num,op,at_⟩=none:=by rw[HTK.out,if_pos (.inr (.inr ⟨rfl,hk9⟩))]
     have HN:=Lib.hid hn
     clear hn hdd hx0 hk9
     go_wp2_with (go_at_call 52;refine hw52.mono ?_;rintro e w3 ⟨rfl,rfl⟩)
     go_quiet ((go_at_call 96;exact Calls.quiet_of_same (isExpr_any _ _)))
     go_wp2
     rw[<-HQ.out]
     exact⟨rfl,_,res51 _ false rfl _,stand_refuse HN.out (H.out.ap.trans ((Ap.refl _).drewN _))⟩
   ·have hx1b:(x==1)=false:=by simp[hx1]
    have hn:takeF o heads ⟨depth,kind,name,num,op,at_⟩=some (o.set u {g with wants:=rest}):=by
     rw[HTK.out,if_neg (by simp[hx0,hx1];omega)];simp[hx1]
    have HN:=Lib.hid hn
    clear hn hdd hx0 hx1
    go_wp2_with (go_at_call 52;refine hw52.mono ?_;rintro e w3 ⟨rfl,rfl⟩)
    go_quiet ((go_at_call 96;exact Calls.quiet_of_same (isExpr_any _ _)))
    go_wp2
    all_goals rw[<-HY.out,<-HQ.out]
    all_goals refine stand_tail ((H.out.shm.drewN nq).setWants (l:=rest) HG.out (zR.kept ?_ fun _ _ _ _=>rfl)) (by simp[go_sem,cN0,hNg]) (by simp[go_sem,cN1,hNg]) H.out.nr H.out.ng (set_depth (g':={g with wants:=rest}) HI.out.depth HG.out rfl) ((by simp;omega)) HN.out HF.out (H.out.ap.trans (((Ap.refl _).drewN nq).set (a:=⟨gb,_,none⟩) (.inr rfl) _)) _ _ _ _ _ _ _ _ _ _ _ _ _ _ _ _ _ _ _ _ _ _ _ _ _ _ _ _ _ _ _ _ _ _ _ _ _ _ _ _ _ _ _ _ _ _ _ _ _ _ _ _ _ _ _ _ _ _ _ _ _ _ _ _ _ _ _ _ _ _ _ _ _ _ _ _ _ _ _ _ _ _ _ _ _ _ _ _ _ _ _ _ _ _ _ _ _ _ _ _ _ _ _ _ _ _ _ _ _ _ _ _ _ _ _ _ _ _ _ _ _ _ _ _ _ _ _ _ _ _ _ _ _ _ _ _ _ _ _ _ _ _ _ _ _ _ _ _ _ _ _ _ _ _ _ _ _ _ _ _ _ _ _ _ _ _ _ _ _ _ _ _ _ _ _ _ _ _ _ _ _ _ _ _ _ _ _ _ _ _ _ _ _ _ _ _ _ _ _ _ _ _ _ _ _ _ _ _ _ _ _ _ _ _ _ _ _ _ _ _
    all_goals first|exact HWT.out|exact HWT2.out (by omega)
 ·have hd1:(depth==(u:Int)+1+1)=false:=by simp[hd]
  have hd2:(depth !=(u:Int)+1+1)=true:=by simp[hd]
  have hn:takeF o heads ⟨depth,kind,name,num,op,at_⟩=none:=by rw[HTK.out,if_pos (.inl hd)]
  have HN:=Lib.hid hn
  clear hd hn
  go_wp2_with (go_at_call 52;refine hw52.mono ?_;rintro e w3 ⟨rfl,rfl⟩)
  go_quiet ((go_at_call 96;exact Calls.quiet_of_same (isExpr_any _ _)))
  go_wp2
  rw[<-HQ.out]
  exact⟨rfl,_,res51 _ false rfl _,stand_refuse HN.out (H.out.ap.trans ((Ap.refl _).drewN _))⟩
def takeN(o:List Hold)(heads:Bool)(n:Nd)(hx:Option Nat):Option (List Hold):=
 if n.kind=0\/n.kind=1 then (if n.depth≠1\/heads=false then none else some o)
 else if yo n.kind then
  if n.depth=1 then some o
  else match hx with
   |some u=>match o[u]? with
    |some h=>if h.kind=9 then some o else none
    |none=>none
   |none=>none
 else if n.kind=9 then
  match hx with
  |some u=>match o[u]? with
   |some h=>if h.kind=7/\h.blocks=1 then some (o.set u {h with blocks:=h.blocks+1}) else none
   |none=>none
  |none=>none
 else none
theorem zc7{o:List Hold}(h:qc o=none)(heads:Bool)(n:Nd):takeF o heads n=takeN o heads n (heldIx o (IntKind.wrap .i64 (n.depth-1))):=by
 unfold takeF takeN
 simp only[h]
 first|done|rfl
theorem zda{B r gb N:Nat}{o:List Hold}{heads:Bool}{st:List Opn}{begun:Bool}{depth kind:Int}{name:ByteArray}{num op at_:Int}{w w2:World}(hI:ShI o heads st begun)(ho:o.length<=24)(hf:fieldsB ⟨depth,kind,name,num,op,at_⟩=true)(hH:Hd w w2 B r gb N o heads depth kind)(hwi:qc o=none):st3.wp Tryz.prog (Exit.then (zF.wp Tryz.prog (bodyPost Tryz.prog Tryz.f51 (StandPost w B r gb o heads ⟨depth,kind,name,num,op,at_⟩))) (bodyPost Tryz.prog Tryz.f51 (StandPost w B r gb o heads ⟨depth,kind,name,num,op,at_⟩))) (F3 r N depth kind name num op at_) w2:=by
 have H:=Lib.hid hH
 have HI:=Lib.hid hI
 have HF:=Lib.hid hf
 have cN0:=hH.c0
 have cN1:=hH.c1
 have hNr:=hH.nr
 have hNg:=hH.ng
 have hng:=hH.shm.ne
 have hw52:=kA w2 hH.shm
 clear hH hI hf
 unfold F3
 generalize hQ:bodyPost Tryz.prog Tryz.f51 (StandPost w B r gb o heads ⟨depth,kind,name,num,op,at_⟩)=Q
 have HQ:=Lib.hid hQ
 clear hQ
 generalize hY:zF.wp Tryz.prog Q=Y
 have HY:=Lib.hid hY
 clear hY
 simp only[st3,st0,seqL,seqR,Tryz.f51,Option.getD_some]
 have e0:ixV none= -1:=rfl
 rw[hwi,e0] at hw52
 clear e0
 have c0:=H.out.shm.c0
 have c1:=H.out.shm.c1
 have hH:∀w',ShM w' B r gb o heads->Calls Tryz.prog 97 #[.pointer (some ⟨r,0,none⟩), .int .i64 (wrap64 (depth-1))] w' fun e w''=>e= .returned (.int .i64 (ixV (heldIx o (wrap64 (depth-1)))))/\w''=w':=fun w' h=>zhi _ w' h
 have HT:Hid (takeF o heads ⟨depth,kind,name,num,op,at_⟩=takeN o heads ⟨depth,kind,name,num,op,at_⟩ (heldIx o (wrap64 (depth-1)))):=by
  have h:=zc7 hwi heads ⟨depth,kind,name,num,op,at_⟩
  rw[Go.IntWalk.i64_left] at h
  exact h
 have hHX:∀u,heldIx o (wrap64 (depth-1))=some u->u<o.length:=fun u hu=>lastIx_lt hu
 generalize heldIx o (wrap64 (depth-1))=hx at hH HT hHX
 clear hwi
 by_cases k01:kind=0\/kind=1
 ·by_cases hd:depth=1
  ·have hd1:(depth==1)=true:=by simp[hd]
   have hd2:(depth !=1)=false:=by simp[hd]
   cases heads with
   |true=>
    have hn:takeF o true ⟨depth,kind,name,num,op,at_⟩=some o:=by rw[HT.out];unfold takeN;rw[if_pos k01,if_neg (by simp[hd])]
    have HN:=Lib.hid hn
    clear hn HT hd
    rcases k01 with rfl|rfl
    ·go_wp2_with (first|(go_at_call 52;refine hw52.mono ?_;rintro e w3 ⟨rfl,rfl⟩)|(go_at_call 97;refine(hH _ H.out.shm).mono ?_;rintro e w3 ⟨rfl,rfl⟩)|(go_at_call 98;refine(isStmt_any _ _).mono ?_;rintro e w3 ⟨rfl,rfl⟩))
     rw[<-HY.out,<-HQ.out];exact stand_tail (H.out.shm) cN0 cN1 H.out.nr H.out.ng (HI.out.depth) (ho) HN.out HF.out (H.out.ap) _ _ _ _ _ _ _ _ _ _ _ _ _ _ _ _ _ _ _ _ _ _ _ _ _ _ _ _ _ _ _ _ _ _ _ _ _ _ _ _ _ _ _ _ _ _ _ _ _ _ _ _ _ _ _ _ _ _ _ _ _ _ _ _ _ _ _ _ _ _ _ _ _ _ _ _ _ _ _ _ _ _ _ _ _ _ _ _ _ _ _ _ _ _ _ _ _ _ _ _ _ _ _ _ _ _ _ _ _ _ _ _ _ _ _ _ _ _ _ _ _ _ _ _ _ _ _ _ _ _ _ _ _ _ _ _ _ _ _ _ _ _ _ _ _ _ _ _ _ _ _ _ _ _ _ _ _ _ _ _ _ _ _ _ _ _ _ _ _ _ _ _ _ _ _ _ _ _ _ _ _ _ _ _ _ _ _ _ _ _ _ _ _ _ _ _ _ _ _ _ _ _ _ _ _ _ _ _ _ _ _ _ _ _ _ _ _ _ _ _
    ·go_wp2_with (first|(go_at_call 52;refine hw52.mono ?_;rintro e w3 ⟨rfl,rfl⟩)|(go_at_call 97;refine(hH _ H.out.shm).mono ?_;rintro e w3 ⟨rfl,rfl⟩)|(go_at_call 98;refine(isStmt_any _ _).mono ?_;rintro e w3 ⟨rfl,rfl⟩))
     rw[<-HY.out,<-HQ.out];exact stand_tail (H.out.shm) cN0 cN1 H.out.nr H.out.ng (HI.out.depth) (ho) HN.out HF.out (H.out.ap) _ _ _ _ _ _ _ _ _ _ _ _ _ _ _ _ _ _ _ _ _ _ _ _ _ _ _ _ _ _ _ _ _ _ _ _ _ _ _ _ _ _ _ _ _ _ _ _ _ _ _ _ _ _ _ _ _ _ _ _ _ _ _ _ _ _ _ _ _ _ _ _ _ _ _ _ _ _ _ _ _ _ _ _ _ _ _ _ _ _ _ _ _ _ _ _ _ _ _ _ _ _ _ _ _ _ _ _ _ _ _ _ _ _ _ _ _ _ _ _ _ _ _ _ _ _ _ _ _ _ _ _ _ _ _ _ _ _ _ _ _ _ _ _ _ _ _ _ _ _ _ _ _ _ _ _ _ _ _ _ _ _ _ _ _ _ _ _ _ _ _ _ _ _ _ _ _ _ _ _ _ _ _ _ _ _ _ _ _ _ _ _ _ _ _ _ _ _ _ _ _ _ _ _ _ _ _ _ _ _ _ _ _ _ _ _ _ _ _ _
   |false=>
    have hn:takeF o false ⟨depth,kind,name,num,op,at_⟩=none:=by rw[HT.out];unfold takeN;rw[if_pos k01,if_pos (by simp)]
    have HN:=Lib.hid hn
    clear hn HT hd
    rcases k01 with rfl|rfl
    ·go_wp2_with (first|(go_at_call 52;refine hw52.mono ?_;rintro e w3 ⟨rfl,rfl⟩)|(go_at_call 97;refine(hH _ H.out.shm).mono ?_;rintro e w3 ⟨rfl,rfl⟩)|(go_at_call 98;refine(isStmt_any _ _).mono ?_;rintro e w3 ⟨rfl,rfl⟩))
     rw[<-HQ.out];exact⟨rfl,_,res51 _ false rfl _,stand_refuse HN.out H.out.ap⟩
    ·go_wp2_with (first|(go_at_call 52;refine hw52.mono ?_;rintro e w3 ⟨rfl,rfl⟩)|(go_at_call 97;refine(hH _ H.out.shm).mono ?_;rintro e w3 ⟨rfl,rfl⟩)|(go_at_call 98;refine(isStmt_any _ _).mono ?_;rintro e w3 ⟨rfl,rfl⟩))
     rw[<-HQ.out];exact⟨rfl,_,res51 _ false rfl _,stand_refuse HN.out H.out.ap⟩
  ·have hn:takeF o heads ⟨depth,kind,name,num,op,at_⟩=none:=by rw[HT.out];unfold takeN;rw[if_pos k01,if_pos (.inl hd)]
   have HN:=Lib.hid hn
   have hd1:(depth==1)=false:=by simp[hd]
   have hd2:(depth !=1)=true:=by simp[hd]
   clear hn HT hd
   rcases k01 with rfl|rfl
   ·go_wp2_with (first|(go_at_call 52;refine hw52.mono ?_;rintro e w3 ⟨rfl,rfl⟩)|(go_at_call 97;refine(hH _ H.out.shm).mono ?_;rintro e w3 ⟨rfl,rfl⟩)|(go_at_call 98;refine(isStmt_any _ _).mono ?_;rintro e w3 ⟨rfl,rfl⟩))
    rw[<-HQ.out];exact⟨rfl,_,res51 _ false rfl _,stand_refuse HN.out H.out.ap⟩
   ·go_wp2_with (first|(go_at_call 52;refine hw52.mono ?_;rintro e w3 ⟨rfl,rfl⟩)|(go_at_call 97;refine(hH _ H.out.shm).mono ?_;rintro e w3 ⟨rfl,rfl⟩)|(go_at_call 98;refine(isStmt_any _ _).mono ?_;rintro e w3 ⟨rfl,rfl⟩))
    rw[<-HQ.out];exact⟨rfl,_,res51 _ false rfl _,stand_refuse HN.out H.out.ap⟩
 ·have k0:(kind==0)=false:=by simp;omega
  have k1:(kind==1)=false:=by simp;omega
  cases hsb:yo kind with
  |true=>
   have hs2:2<=kind/\kind<=8:=by unfold yo at hsb;simpa using hsb
   have e0:∀hx',takeN o heads ⟨depth,kind,name,num,op,at_⟩ hx'=(if depth=1 then some o else match hx' with
    |some u=>match o[u]? with
     |some h=>if h.kind=9 then some o else none
     |none=>none
    |none=>none):=fun hx'=>by unfold takeN;rw[if_neg k01,if_pos hsb]
   by_cases hd:depth=1
   ·have hd1:(depth==1)=true:=by simp[hd]
    have hd2:(depth !=1)=false:=by simp[hd]
    have hn:takeF o heads ⟨depth,kind,name,num,op,at_⟩=some o:=by rw[HT.out,e0,if_pos hd]
    have HN:=Lib.hid hn
    clear hn HT e0 k01 hs2 hHX hd
    go_wp2_with (first|(go_at_call 52;refine hw52.mono ?_;rintro e w3 ⟨rfl,rfl⟩)|(go_at_call 97;refine(hH _ H.out.shm).mono ?_;rintro e w3 ⟨rfl,rfl⟩)|(go_at_call 98;refine(isStmt_any _ _).mono ?_;rintro e w3 ⟨rfl,rfl⟩))
    rw[<-HY.out,<-HQ.out];exact stand_tail (H.out.shm) cN0 cN1 H.out.nr H.out.ng (HI.out.depth) (ho) HN.out HF.out (H.out.ap) _ _ _ _ _ _ _ _ _ _ _ _ _ _ _ _ _ _ _ _ _ _ _ _ _ _ _ _ _ _ _ _ _ _ _ _ _ _ _ _ _ _ _ _ _ _ _ _ _ _ _ _ _ _ _ _ _ _ _ _ _ _ _ _ _ _ _ _ _ _ _ _ _ _ _ _ _ _ _ _ _ _ _ _ _ _ _ _ _ _ _ _ _ _ _ _ _ _ _ _ _ _ _ _ _ _ _ _ _ _ _ _ _ _ _ _ _ _ _ _ _ _ _ _ _ _ _ _ _ _ _ _ _ _ _ _ _ _ _ _ _ _ _ _ _ _ _ _ _ _ _ _ _ _ _ _ _ _ _ _ _ _ _ _ _ _ _ _ _ _ _ _ _ _ _ _ _ _ _ _ _ _ _ _ _ _ _ _ _ _ _ _ _ _ _ _ _ _ _ _ _ _ _ _ _ _ _ _ _ _ _ _ _ _ _ _ _ _ _ _
   ·have hd1:(depth==1)=false:=by simp[hd]
    have hd2:(depth !=1)=true:=by simp[hd]
    cases hx with
    |none=>
     have hn:takeF o heads ⟨depth,kind,name,num,op,at_⟩=none:=by rw[HT.out,e0,if_neg hd]
     have HN:=Lib.hid hn
     have e1:ixV none= -1:=rfl
     rw[e1] at hH
     clear hn HT e0 k01 hs2 hHX hd
     go_wp2_with (first|(go_at_call 52;refine hw52.mono ?_;rintro e w3 ⟨rfl,rfl⟩)|(go_at_call 97;refine(hH _ H.out.shm).mono ?_;rintro e w3 ⟨rfl,rfl⟩)|(go_at_call 98;refine(isStmt_any _ _).mono ?_;rintro e w3 ⟨rfl,rfl⟩))
     rw[<-HQ.out];exact⟨rfl,_,res51 _ false rfl _,stand_refuse HN.out H.out.ap⟩
    |some u=>
     have e1:ixV (some u)=(u:Int):=rfl
     rw[e1] at hH
     have hul:=hHX u rfl
     obtain⟨g,hg⟩:∃g,o[u]? =some g:=⟨_,List.getElem?_eq_getElem hul⟩
     have q1:=H.out.shm.kind hg
     have hu0:(0:Int)<=u:=by omega
     have hu1:((u:Int)<0)=False:=by apply eq_false;omega
     by_cases hk9:g.kind=9
     ·have hn:takeF o heads ⟨depth,kind,name,num,op,at_⟩=some o:=by rw[HT.out,e0,if_neg hd];simp only[hg,hk9,if_true]
      have HN:=Lib.hid hn
      have hg1:(g.kind==9)=true:=by simp[hk9]
      have hg2:(g.kind !=9)=false:=by simp[hk9]
      clear hn HT e0 k01 hs2 hHX hd e1 hg hk9
      go_wp2_with (first|(go_at_call 52;refine hw52.mono ?_;rintro e w3 ⟨rfl,rfl⟩)|(go_at_call 97;refine(hH _ H.out.shm).mono ?_;rintro e w3 ⟨rfl,rfl⟩)|(go_at_call 98;refine(isStmt_any _ _).mono ?_;rintro e w3 ⟨rfl,rfl⟩))
      rw[<-HY.out,<-HQ.out];exact stand_tail (H.out.shm) cN0 cN1 H.out.nr H.out.ng (HI.out.depth) (ho) HN.out HF.out (H.out.ap) _ _ _ _ _ _ _ _ _ _ _ _ _ _ _ _ _ _ _ _ _ _ _ _ _ _ _ _ _ _ _ _ _ _ _ _ _ _ _ _ _ _ _ _ _ _ _ _ _ _ _ _ _ _ _ _ _ _ _ _ _ _ _ _ _ _ _ _ _ _ _ _ _ _ _ _ _ _ _ _ _ _ _ _ _ _ _ _ _ _ _ _ _ _ _ _ _ _ _ _ _ _ _ _ _ _ _ _ _ _ _ _ _ _ _ _ _ _ _ _ _ _ _ _ _ _ _ _ _ _ _ _ _ _ _ _ _ _ _ _ _ _ _ _ _ _ _ _ _ _ _ _ _ _ _ _ _ _ _ _ _ _ _ _ _ _ _ _ _ _ _ _ _ _ _ _ _ _ _ _ _ _ _ _ _ _ _ _ _ _ _ _ _ _ _ _ _ _ _ _ _ _ _ _ _ _ _ _ _ _ _ _ _ _ _ _ _ _ _ _
     ·have hn:takeF o heads ⟨depth,kind,name,num,op,at_⟩=none:=by rw[HT.out,e0,if_neg hd];simp only[hg,hk9,if_false]
      have HN:=Lib.hid hn
      have hg1:(g.kind==9)=false:=by simp[hk9]
      have hg2:(g.kind !=9)=true:=by simp[hk9]
      clear hn HT e0 k01 hs2 hHX hd e1 hg hk9
      go_wp2_with (first|(go_at_call 52;refine hw52.mono ?_;rintro e w3 ⟨rfl,rfl⟩)|(go_at_call 97;refine(hH _ H.out.shm).mono ?_;rintro e w3 ⟨rfl,rfl⟩)|(go_at_call 98;refine(isStmt_any _ _).mono ?_;rintro e w3 ⟨rfl,rfl⟩))
      rw[<-HQ.out];exact⟨rfl,_,res51 _ false rfl _,stand_refuse HN.out H.out.ap⟩
  |false=>
   by_cases hk9:kind=9
   ·subst hk9
    have e0:∀hx',takeN o heads ⟨depth,9,name,num,op,at_⟩ hx'=(match hx' with
     |some u=>match o[u]? with
      |some h=>if h.kind=7/\h.blocks=1 then some (o.set u {h with blocks:=h.blocks+1}) else none
      |none=>none
     |none=>none):=fun hx'=>by unfold takeN;rw[if_neg k01,if_neg (by simp[hsb]),if_pos rfl]
    cases hx with
    |none=>
     have hn:takeF o heads ⟨depth,9,name,num,op,at_⟩=none:=by rw[HT.out,e0]
     have HN:=Lib.hid hn
     have e1:ixV none= -1:=rfl
     rw[e1] at hH
     clear hn HT e0 k01 hHX
     go_wp2_with (first|(go_at_call 52;refine hw52.mono ?_;rintro e w3 ⟨rfl,rfl⟩)|(go_at_call 97;refine(hH _ H.out.shm).mono ?_;rintro e w3 ⟨rfl,rfl⟩)|(go_at_call 98;refine(isStmt_any _ _).mono ?_;rintro e w3 ⟨rfl,rfl⟩))
     rw[<-HQ.out];exact⟨rfl,_,res51 _ false rfl _,stand_refuse HN.out H.out.ap⟩
    |some u=>
     have e1:ixV (some u)=(u:Int):=rfl
     rw[e1] at hH
     have hul:=hHX u rfl
     obtain⟨g,hg⟩:∃g,o[u]? =some g:=⟨_,List.getElem?_eq_getElem hul⟩
     have q1:=H.out.shm.kind hg
     have q3:=H.out.shm.blocks hg
     have hgs:=HI.out.small u g hg
     have f3:=H.out.shm.fr (u*4+3)
     have hu0:(0:Int)<=u:=by omega
     have hu1:((u:Int)<0)=False:=by apply eq_false;omega
     have HG:=Lib.hid hg
     by_cases hk7:g.kind=7
     ·have hg1:(g.kind==7)=true:=by simp[hk7]
      have hg2:(g.kind !=7)=false:=by simp[hk7]
      by_cases hb1:g.blocks=1
      ·have hn:takeF o heads ⟨depth,9,name,num,op,at_⟩=some (o.set u {g with blocks:=g.blocks+1}):=by rw[HT.out,e0];simp only[hg,hk7,hb1,and_self,if_true]
       have HN:=Lib.hid hn
       have hg3:(g.blocks==1)=true:=by simp[hb1]
       have hg4:(g.blocks !=1)=false:=by simp[hb1]
       clear hn HT e0 k01 hHX e1 hg hk7 hb1
       go_wp2_with (first|(go_at_call 52;refine hw52.mono ?_;rintro e w3 ⟨rfl,rfl⟩)|(go_at_call 97;refine(hH _ H.out.shm).mono ?_;rintro e w3 ⟨rfl,rfl⟩)|(go_at_call 98;refine(isStmt_any _ _).mono ?_;rintro e w3 ⟨rfl,rfl⟩))
       rw[<-HY.out,<-HQ.out];exact stand_tail (H.out.shm.setBlocks HG.out (g.blocks+1)) (by simp[go_sem,cN0,hNg]) (by simp[go_sem,cN1,hNg]) H.out.nr H.out.ng (set_depth (g':={g with blocks:=g.blocks+1}) HI.out.depth HG.out rfl) ((by simp;omega)) HN.out HF.out (H.out.ap.trans ((Ap.refl _).set (a:=⟨gb,_,none⟩) (.inr rfl) _)) _ _ _ _ _ _ _ _ _ _ _ _ _ _ _ _ _ _ _ _ _ _ _ _ _ _ _ _ _ _ _ _ _ _ _ _ _ _ _ _ _ _ _ _ _ _ _ _ _ _ _ _ _ _ _ _ _ _ _ _ _ _ _ _ _ _ _ _ _ _ _ _ _ _ _ _ _ _ _ _ _ _ _ _ _ _ _ _ _ _ _ _ _ _ _ _ _ _ _ _ _ _ _ _ _ _ _ _ _ _ _ _ _ _ _ _ _ _ _ _ _ _ _ _ _ _ _ _ _ _ _ _ _ _ _ _ _ _ _ _ _ _ _ _ _ _ _ _ _ _ _ _ _ _ _ _ _ _ _ _ _ _ _ _ _ _ _ _ _ _ _ _ _ _ _ _ _ _ _ _ _ _ _ _ _ _ _ _ _ _ _ _ _ _ _ _ _ _ _ _ _ _ _ _ _ _ _ _ _ _ _ _ _ _ _ _ _ _ _ _
      ·have hn:takeF o heads ⟨depth,9,name,num,op,at_⟩=none:=by rw[HT.out,e0];simp only[hg,hb1,and_false,if_false]
       have HN:=Lib.hid hn
       have hg3:(g.blocks==1)=false:=by simp[hb1]
       have hg4:(g.blocks !=1)=true:=by simp[hb1]
       clear hn HT e0 k01 hHX e1 hg hk7 hb1
       go_wp2_with (first|(go_at_call 52;refine hw52.mono ?_;rintro e w3 ⟨rfl,rfl⟩)|(go_at_call 97;refine(hH _ H.out.shm).mono ?_;rintro e w3 ⟨rfl,rfl⟩)|(go_at_call 98;refine(isStmt_any _ _).mono ?_;rintro e w3 ⟨rfl,rfl⟩))
       rw[<-HQ.out];exact⟨rfl,_,res51 _ false rfl _,stand_refuse HN.out H.out.ap⟩
     ·have hn:takeF o heads ⟨depth,9,name,num,op,at_⟩=none:=by rw[HT.out,e0];simp only[hg,hk7,false_and,if_false]
      have HN:=Lib.hid hn
      have hg1:(g.kind==7)=false:=by simp[hk7]
      have hg2:(g.kind !=7)=true:=by simp[hk7]
      clear hn HT e0 k01 hHX e1 hg hk7
      go_wp2_with (first|(go_at_call 52;refine hw52.mono ?_;rintro e w3 ⟨rfl,rfl⟩)|(go_at_call 97;refine(hH _ H.out.shm).mono ?_;rintro e w3 ⟨rfl,rfl⟩)|(go_at_call 98;refine(isStmt_any _ _).mono ?_;rintro e w3 ⟨rfl,rfl⟩))
      rw[<-HQ.out];exact⟨rfl,_,res51 _ false rfl _,stand_refuse HN.out H.out.ap⟩
   ·have hn:takeF o heads ⟨depth,kind,name,num,op,at_⟩=none:=by rw[HT.out];unfold takeN;rw[if_neg k01,if_neg (by simp[hsb]),if_neg hk9]
    have HN:=Lib.hid hn
    have hg1:(kind==9)=false:=by simp[hk9]
    have hg2:(kind !=9)=true:=by simp[hk9]
    clear hn HT k01 hHX hk9
    go_wp2_with (first|(go_at_call 52;refine hw52.mono ?_;rintro e w3 ⟨rfl,rfl⟩)|(go_at_call 97;refine(hH _ H.out.shm).mono ?_;rintro e w3 ⟨rfl,rfl⟩)|(go_at_call 98;refine(isStmt_any _ _).mono ?_;rintro e w3 ⟨rfl,rfl⟩))
    rw[<-HQ.out];exact⟨rfl,_,res51 _ false rfl _,stand_refuse HN.out H.out.ap⟩
theorem stands_any{B r gb:Nat}{o:List Hold}{heads:Bool}(n:Nd)(hs:n.name.size<=140737488355328)(w:World)(h:ShM w B r gb o heads){st:List Opn}{begun:Bool}(hI:ShI o heads st begun)(ho:o.length<=24):
 Calls Tryz.prog 51 #[.pointer (some ⟨r,0,none⟩), .agg n.cells.toArray] w (StandPost w B r gb o heads n):=by
 obtain⟨depth,kind,name,num,op,at_⟩:=n
 refine zdb depth kind name num op at_ hs w h fun hf w2 N hH=>?_
 cases hwi:qc o with
 |some u=>exact zbI hI ho hf hH hwi
 |none=>exact zda hI ho hf hH hwi
def NodesAt(w:World)(v:Value)(l:List Nd):Prop:=
 ∃b cap,v= .slice b l.length cap/\l.length<=cap/\(l≠[]->∃g off,b=some ⟨g,off,none⟩/\∀(j:Nat) (n:Nd),l[j]? =some n->∀(k:Nat) (c:Value),n.cells[k]? =some c->w.cell? ⟨g,off+j*6+k,none⟩=some c)
theorem NodesAt.kin{w w':World}{v:Value}{l:List Nd}(h:NodesAt w v l)(k:Kin w w'):NodesAt w' v l:=by
 obtain⟨b,cap,h1,h2,h3⟩:=h
 refine⟨b,cap,h1,h2,fun hl=>?_⟩
 obtain⟨g,off,h4,h5⟩:=h3 hl
 refine⟨g,off,h4,fun j n hj x c hc=>?_⟩
 have:=h5 j n hj x c hc
 exact(k.cell (World.block_lt_of_cell? w ⟨g,_,none⟩ this)).trans this
theorem ShM.start{w:World}{c:Array Value}{B:Nat}(hc:c.size=104)(hB:B<=w.heap.size):ShM ((w.alloc (.cells c 157)).alloc (.cells #[.slice (some ⟨w.heap.size,0,none⟩) 0 26, .bool true] 100)) B (w.heap.size+1) w.heap.size [] true:=by
 have h1:=(World.rowIs_alloc w c 157 (fun i=>c[i]?.getD undef) fun i hi=>by simp[hi]).alloc (.cells #[.slice (some ⟨w.heap.size,0,none⟩) 0 26, .bool true] 100)
 have h2:=World.rowIs_alloc (w.alloc (.cells c 157)) #[.slice (some ⟨w.heap.size,0,none⟩) 0 26, .bool true] 100 (shF w.heap.size 0 true) (fun i hi=>by
  match i,hi with
  |0,_=>rfl
  |1,_=>rfl)
 rw[hc] at h1
 have hs:(w.alloc (.cells c 157)).heap.size=w.heap.size+1:=by simp
 rw[hs] at h2
 exact⟨h2,⟨_,h1,fun j h hj=>by simp at hj⟩,by simp,by omega,by omega,hB⟩
theorem zfr(w:World)(a b c d e f:Value):(w.alloc (.cells #[a,b,c,d,e,f] 50)).cell? ⟨w.heap.size,0,none⟩=some a:=by
 simp[go_sem]
theorem zjy:∃c:Array Value,c.size=104/\∀u:World,(Instr.makeSlice 98 (.int .i64 0) (.int .i64 26)).run Tryz.prog u= .ok (.slice (some ⟨u.heap.size,0,none⟩) 0 26) (u.alloc (.cells c 157)):=by
 obtain⟨ti,hi,hz0,hz1,hz2⟩:=info_parts zcK
 have h:=fun u:World=>run_make (P:=Tryz.prog) u 98 157 ti _ Tryz.underlying98 hi hz0 .i64 .i64 0 26 (by omega) (by omega) (by rw[hz2];decide) (by omega)
 refine⟨_,?_,h⟩
 rw[size_madeCells]
 show 26*ti.size=104
 rw[hz1]
theorem gS(l:List Nd)(hl:∀n∈l,n.name.size<=140737488355328/\ -9223372036854775808<=n.depth/\n.depth<=9223372036854775807)(hlen:l.length<=9223372036854775807)(v:Value)(w:World)(h:NodesAt w v l):
 Calls Tryz.prog 18 #[v] w fun e w'=>e= .returned (.tuple #[.int .i64 (ju l).1, .int .i64 (ju l).2])/\Kin w w':=by
 have HL:=Lib.hid hl
 have HN:=Lib.hid h
 clear hl
 obtain⟨b,cap,rfl,hcap,hne⟩:=h
 have HNE:=Lib.hid hne
 clear hne
 by_cases hm:300<l.length
 ·have hs:ju l=(32,300):=by unfold ju;rw[if_pos hm]
  have hd:decide ((300:Int)<(l.length:Int))=true:=by simp;omega
  rw[hs]
  clear hs hm
  go_enter Tryz.func18,Tryz.ntmps18
  go_wp2
  go_ret2
  exact⟨rfl,Kin.refl _⟩
 ·have hs:ju l=jY [] true 0 l:=by unfold ju;rw[if_neg hm]
  have hd:decide ((300:Int)<(l.length:Int))=false:=by simp;omega
  rw[hs]
  obtain⟨c,hc,hmk⟩:=zjy
  have HM:=Lib.hid (ShM.start (w:=w) hc (Nat.le_refl _))
  have HK:=Lib.hid ((Kin.refl w).alloc (.cells c 157))
  generalize hR:jY [] true 0 l=R
  have HR:=Lib.hid hR
  clear hs hR
  go_enter Tryz.func18,Tryz.ntmps18
  go_wp2_with fail
  have h0:ShM ((w.alloc (.cells c 157)).alloc (.cells #[.slice (some ⟨w.heap.size,0,none⟩) 0 26, .bool true] 100)) w.heap.size (w.heap.size+1) w.heap.size [] true:=HM.out
  have k0:Kin w ((w.alloc (.cells c 157)).alloc (.cells #[.slice (some ⟨w.heap.size,0,none⟩) 0 26, .bool true] 100)):=HK.out.alloc _
  have HM0:=Lib.hid h0
  have HK0:=Lib.hid k0
  clear h0 k0 HM HK hmk hc
  generalize (w.alloc (.cells c 157)).alloc (.cells #[.slice (some ⟨w.heap.size,0,none⟩) 0 26, .bool true] 100)=W0 at HM0 HK0⊢
  obtain⟨R1,R2⟩:=R
  go_loopg [15] l.length (fun g x wq=>∃(k:Nat) (o:List Hold) (heads:Bool) (st:List Opn) (begun:Bool),x= .int .i64 k/\k<=l.length/\g=l.length-k/\ShM wq w.heap.size (w.heap.size+1) w.heap.size o heads/\ShI o heads st begun/\o.length<=24/\Ap (w.heap.size+1) w.heap.size W0 wq/\jY o heads k (l.drop k)=(R1,R2))
  case atStart=>exact⟨0,[],true,[],false,rfl,Nat.zero_le _,rfl,HM0.out,ShI.start,by decide,Ap.refl _,HR.out⟩
  case round=>
   obtain⟨k,o,heads,st,begun,rfl,hk,hg,hS,hI,ho,hA,hG⟩:=hrel
   have HS:=Lib.hid hS
   have HI:=Lib.hid hI
   have HA:=Lib.hid hA
   have HG:=Lib.hid hG
   have HGG:=Lib.hid hg
   have HO:=Lib.hid ho
   clear hS hI hA hG hg ho
   have kin:∀w':World,Ap (w.heap.size+1) w.heap.size wr w'->Kin w w':=fun w' h=>by
    have a:=HA.out.trans h
    have q:=HK0.out
    have qs:=q.size
    exact⟨a.os.trans q.os,a.out.trans q.out,Nat.le_trans q.size a.size,fun j hj=>(a.block j (by omega) (by omega) (by omega)).trans (q.block j hj)⟩
   have KIN:=Lib.hid kin
   clear kin
   by_cases hlk:k<l.length
   ·obtain⟨⟨depth,kind,name,num,op,at_⟩,hu⟩:∃u,l[k]? =some u:=⟨_,List.getElem?_eq_getElem hlk⟩
    obtain⟨gb,off,rfl,hcell⟩:=HNE.out (by rintro rfl;simp at hlk)
    have cells:∀(x:Nat) (v:Value),(Nd.mk depth kind name num op at_).cells[x]? =some v->wr.cell? ⟨gb,off+k*6+x,none⟩=some v:=fun x v hv=>by
     have:=hcell k _ hu x v hv
     have hb:=World.block_lt_of_cell? w _ this
     have h2:=HK0.out.cell (n:=gb) (o:=off+k*6+x) hb
     have hbz:gb<w.heap.size:=hb
     have hs0:=HK0.out.size
     exact((HA.out.cell (by omega) (by omega) (by omega)).trans h2).trans this
    have r0:=cells 0 _ rfl
    have r1:=cells 1 _ rfl
    have r2:=cells 2 _ rfl
    have r3:=cells 3 _ rfl
    have r4:=cells 4 _ rfl
    have r5:=cells 5 _ rfl
    simp only[Nat.add_zero] at r0
    have hul:=HL.out _ (List.mem_of_getElem? hu)
    have hdrop:l.drop k=⟨depth,kind,name,num,op,at_⟩::l.drop (k+1):=by
     rw[List.drop_eq_getElem_cons hlk]
     rw[List.getElem?_eq_getElem hlk] at hu
     rw[Option.some.inj hu]
    have HC:=Lib.hid hcell
    have HU:=Lib.hid hul
    have HDR:=Lib.hid hdrop
    clear cells hcell hu hul hdrop
    have hAl:Ap (w.heap.size+1) w.heap.size wr (wr.alloc (.cells #[.int .i64 depth, .int .i64 kind, .string name, .int .i64 num, .int .i64 op, .int .i64 at_] 50)):=Ap.of_kin ((Kin.refl _).alloc _)
    have hst:=stands_any ⟨depth,kind,name,num,op,at_⟩ HU.out.1 _ (HS.out.kin ((Kin.refl wr).alloc (.cells #[.int .i64 depth, .int .i64 kind, .string name, .int .i64 num, .int .i64 op, .int .i64 at_] 50))) HI.out HO.out
    have hsm:=zc9 HI.out HO.out ⟨depth,kind,name,num,op,at_⟩ HU.out.2.1 HU.out.2.2
    have hG:=HG.out
    rw[HDR.out] at hG
    unfold jY at hG
    unfold StandPost at hst
    cases hsf:xA o heads ⟨depth,kind,name,num,op,at_⟩ with
    |none=>
     rw[hsf] at hG hst
     cases hG
     have hst2:Calls Tryz.prog 51 #[.pointer (some ⟨w.heap.size+1,0,none⟩), .agg #[.int .i64 depth, .int .i64 kind, .string name, .int .i64 num, .int .i64 op, .int .i64 at_]] (wr.alloc (.cells #[.int .i64 depth, .int .i64 kind, .string name, .int .i64 num, .int .i64 op, .int .i64 at_] 50)) (fun e w'=>e= .returned (.bool false)/\Kin w w'):=hst.mono fun e w' h=>⟨h.2,KIN.out _ (hAl.trans h.1)⟩
     clear hst hsf hsm hAl
     go_wp2_with (go_at_call 51;refine hst2.mono ?_;rintro e w3 ⟨rfl,hk3⟩)
     go_ret2
     exact⟨rfl,hk3⟩
    |some p=>
     obtain⟨o',h'⟩:=p
     rcases hsm with⟨e1,_⟩|⟨o1,h1,st1,b1,e1,_,e3,e4⟩
     ·rw[hsf] at e1;cases e1
     rw[hsf] at e1
     cases e1
     rw[hsf] at hG hst
     dsimp only at hG
     have E3:=Lib.hid e3
     have E4:=Lib.hid e4
     have hst2:Calls Tryz.prog 51 #[.pointer (some ⟨w.heap.size+1,0,none⟩), .agg #[.int .i64 depth, .int .i64 kind, .string name, .int .i64 num, .int .i64 op, .int .i64 at_]] (wr.alloc (.cells #[.int .i64 depth, .int .i64 kind, .string name, .int .i64 num, .int .i64 op, .int .i64 at_] 50)) (fun e w'=>e= .returned (.bool true)/\Ap (w.heap.size+1) w.heap.size wr w'/\ShM w' w.heap.size (w.heap.size+1) w.heap.size o' h'/\w'.cell? ⟨wr.heap.size,0,none⟩=some (.int .i64 depth)):=hst.mono fun e w' h=>⟨h.2.1,hAl.trans h.1,h.2.2,by
      have hz:=HA.out.size
      have hz0:=HK0.out.size
      have hb:=HM0.out.s.lt
      exact(h.1.cell (by simp) (by omega) (by omega)).trans (zfr wr _ _ _ _ _ _)⟩
     clear hst hsf hAl e3 e4
     by_cases hd24:24<depth
     ·rw[if_pos hd24] at hG
      cases hG
      have hdd:decide (24<depth)=true:=by simp[hd24]
      have HD24:=Lib.hid hd24
      clear hd24
      go_wp2_with (go_at_call 51;refine hst2.mono ?_;rintro e w3 ⟨rfl,hA3,hS3,hc3⟩)
      go_ret2
      exact⟨rfl,KIN.out _ hA3⟩
     ·rw[if_neg hd24] at hG
      have hdd:decide (24<depth)=false:=by simp;omega
      have HD24:=Lib.hid hd24
      have HG2:=Lib.hid hG
      clear hd24 hG
      go_wp2_with (go_at_call 51;refine hst2.mono ?_;rintro e w3 ⟨rfl,hA3,hS3,hc3⟩)
      go_roundg (l.length-(k+1))
      case measure=>have:=HGG.out;omega
      case rel=>exact⟨k+1,o',h',_,_,by simp,by omega,rfl,hS3,E4.out,by have:=E3.out;have:=HD24.out;omega,HA.out.trans hA3,HG2.out⟩
   ·have hkl:k=l.length:=by omega
    subst hkl
    have hG:=HG.out
    rw[List.drop_length] at hG
    unfold jY at hG
    have hwt:=kA wr HS.out
    cases hw:qc o with
    |none=>
     rw[hw] at hG hwt
     cases hG
     have HK1:=Lib.hid (KIN.out _ (Ap.refl _))
     go_wp2_with (go_at_call 52;refine hwt.mono ?_;rintro e w3 ⟨rfl,rfl⟩)
     go_ret2
     exact⟨rfl,HK1.out⟩
    |some u=>
     rw[hw] at hG hwt
     cases hG
     have hx:decide ((0:Int)<=ixV (some u))=true:=by simp[ixV]
     have HK1:=Lib.hid (KIN.out _ (Ap.refl _))
     go_wp2_with (go_at_call 52;refine hwt.mono ?_;rintro e w3 ⟨rfl,rfl⟩)
     go_ret2
     exact⟨rfl,HK1.out⟩
instance:DecidableEq Nd:=fun a b=>decidable_of_iff (a.depth=b.depth/\a.kind=b.kind/\a.name=b.name/\a.num=b.num/\a.op=b.op/\a.at_=b.at_) (by cases a;cases b;simp)
theorem guard50:Tryz.prog.eqGuardType Tryz.prog.depth 50=false:=by kernel_rfl
theorem zjG:Tryz.prog.stoodInHeld 50=false:=by kernel_rfl
theorem zgy:Tryz.prog.underlying 50=some (.struct (Tryz.prog.fieldsOf 50)):=by kernel_rfl
theorem eq50(a1 a2:Int)(a3:ByteArray)(a4 a5 a6 b1 b2:Int)(b3:ByteArray)(b4 b5 b6:Int)(w:World):(Op.equalIn 10000 50 (.agg #[.int .i64 a1, .int .i64 a2, .string a3, .int .i64 a4, .int .i64 a5, .int .i64 a6]) (.agg #[.int .i64 b1, .int .i64 b2, .string b3, .int .i64 b4, .int .i64 b5, .int .i64 b6])).run Tryz.prog w= .ok (decide (Nd.mk a1 a2 a3 a4 a5 a6=Nd.mk b1 b2 b3 b4 b5 b6)) w:=by
 rw[show(10000:Nat)=9999+1 from rfl,run_equalIn_agg w 9999 50 _ _ zgy zjG]
 simp only[Program.fieldsOf,Tryz.underlying50]
 simp[go_sem,Op.eqFields]
 have hx:(a3.toList=b3.toList)↔a3=b3:=by
  constructor
  ·intro h
   rw[ByteArray.toList_eq,ByteArray.toList_eq] at h
   obtain⟨⟨x⟩⟩:=a3
   obtain⟨⟨y⟩⟩:=b3
   have h':x=y:=h
   rw[h']
  ·rintro rfl;rfl
 by_cases h1:a1=b1<;>by_cases h2:a2=b2<;>by_cases h3:a3=b3<;>by_cases h4:a4=b4<;>by_cases h5:a5=b5<;>by_cases h6:a6=b6<;>simp[h1,h2,h3,h4,h5,h6,hx]
theorem NodesAt.at{w:World}{b:Option Addr}{n cap:Nat}{l:List Nd}(h:NodesAt w (.slice b n cap) l)(hl:l≠[]):∃g off,b=some ⟨g,off,none⟩/\∀(j:Nat) (n:Nd),l[j]? =some n->∀(k:Nat) (c:Value),n.cells[k]? =some c->w.cell? ⟨g,off+j*6+k,none⟩=some c:=by
 obtain⟨b',cap',h1,h2,h3⟩:=h
 cases h1
 exact h3 hl
theorem same_any(l1 l2:List Nd)(hl1:l1.length<=9223372036854775807)(hl2:l2.length<=9223372036854775807)(v1 v2:Value)(w:World)(h1:NodesAt w v1 l1)(h2:NodesAt w v2 l2):
 Calls Tryz.prog 16 #[v1,v2] w fun e w'=>e= .returned (.bool (decide (l1=l2)))/\Kin w w':=by
 have HN1:=Lib.hid h1
 have HN2:=Lib.hid h2
 obtain⟨b1,cap1,rfl,hcap1,hne1⟩:=h1
 obtain⟨b2,cap2,rfl,hcap2,hne2⟩:=h2
 clear hne1 hne2
 by_cases hlen:l1.length=l2.length
 ·have hd:((l1.length:Int)!=(l2.length:Int))=false:=by simp[hlen]
  have HLEN:=Lib.hid hlen
  clear hlen
  generalize hR:decide (l1=l2)=R
  have HR:=Lib.hid hR
  clear hR
  go_enter Tryz.func16,Tryz.ntmps16
  go_wp2_with fail
  go_loopg [5] l1.length (fun g x wq=>∃k:Nat,x= .int .i64 k/\k<=l1.length/\g=l1.length-k/\Kin w wq/\∀j,j<k->l1[j]? =l2[j]?)
  case atStart=>exact⟨0,rfl,Nat.zero_le _,rfl,Kin.refl _,fun j hj=>by omega⟩
  case round=>
   obtain⟨k,rfl,hk,hg,hK,hsame⟩:=hrel
   have HG:=Lib.hid hg
   have HK:=Lib.hid hK
   have HS:=Lib.hid hsame
   clear hg hK hsame
   by_cases hlk:k<l1.length
   ·have hlk2:k<l2.length:=by have:=HLEN.out;omega
    obtain⟨⟨a1,a2,a3,a4,a5,a6⟩,hu1⟩:∃u,l1[k]? =some u:=⟨_,List.getElem?_eq_getElem hlk⟩
    obtain⟨⟨c1,c2,c3,c4,c5,c6⟩,hu2⟩:∃u,l2[k]? =some u:=⟨_,List.getElem?_eq_getElem hlk2⟩
    obtain⟨g1,off1,rfl,hcell1⟩:=HN1.out.at (by rintro rfl;simp at hlk)
    obtain⟨g2,off2,rfl,hcell2⟩:=HN2.out.at (by rintro rfl;simp at hlk2)
    have cells1:∀(x:Nat) (v:Value),(Nd.mk a1 a2 a3 a4 a5 a6).cells[x]? =some v->wr.cell? ⟨g1,off1+k*6+x,none⟩=some v:=fun x v hv=>by
     have:=hcell1 k _ hu1 x v hv
     exact(HK.out.cell (World.block_lt_of_cell? w _ this)).trans this
    have cells2:∀(x:Nat) (v:Value),(Nd.mk c1 c2 c3 c4 c5 c6).cells[x]? =some v->wr.cell? ⟨g2,off2+k*6+x,none⟩=some v:=fun x v hv=>by
     have:=hcell2 k _ hu2 x v hv
     exact(HK.out.cell (World.block_lt_of_cell? w _ this)).trans this
    have r0:=cells1 0 _ rfl
    have r1:=cells1 1 _ rfl
    have r2:=cells1 2 _ rfl
    have r3:=cells1 3 _ rfl
    have r4:=cells1 4 _ rfl
    have r5:=cells1 5 _ rfl
    have s0:=cells2 0 _ rfl
    have s1:=cells2 1 _ rfl
    have s2:=cells2 2 _ rfl
    have s3:=cells2 3 _ rfl
    have s4:=cells2 4 _ rfl
    have s5:=cells2 5 _ rfl
    simp only[Nat.add_zero] at r0 s0
    have he:=eq50 a1 a2 a3 a4 a5 a6 c1 c2 c3 c4 c5 c6
    have hgd:=guard50
    have HU1:=Lib.hid hu1
    have HU2:=Lib.hid hu2
    clear cells1 cells2 hcell1 hcell2 hu1 hu2
    by_cases hab:Nd.mk a1 a2 a3 a4 a5 a6=Nd.mk c1 c2 c3 c4 c5 c6
    ·rw[decide_eq_true hab] at he
     have HAB:=Lib.hid hab
     clear hab
     go_wp2_with fail
     go_region
     go_wp2_with fail
     go_roundg (l1.length-(k+1))
     case measure=>have:=HG.out;omega
     case rel=>
      refine⟨k+1,by simp,by omega,rfl,HK.out.drewN _,fun j hj=>?_⟩
      by_cases e:j=k
      ·subst e;rw[HU1.out,HU2.out,HAB.out]
      ·exact HS.out j (by omega)
    ·rw[decide_eq_false hab] at he
     have hRf:R=false:=by
      rw[<-HR.out,decide_eq_false_iff_not]
      rintro rfl
      have h1:=HU1.out
      rw[HU2.out] at h1
      exact hab (Option.some.inj h1).symm
     subst hRf
     clear hab
     go_wp2_with fail
     go_region
     go_wp2_with fail
     go_ret
     exact⟨rfl,HK.out.drewN _⟩
   ·have hkl:k=l1.length:=by omega
    subst hkl
    have hRt:R=true:=by
     rw[<-HR.out,decide_eq_true_iff]
     apply List.ext_getElem?
     intro j
     by_cases hj:j<l1.length
     ·exact HS.out j hj
     ·rw[List.getElem?_eq_none (by omega),List.getElem?_eq_none (by have:=HLEN.out;omega)]
    subst hRt
    go_wp2_with fail
    go_ret
    exact⟨rfl,HK.out⟩
 ·have hd:((l1.length:Int)!=(l2.length:Int))=true:=by simp;omega
  have hn:decide (l1=l2)=false:=by
   rw[decide_eq_false_iff_not]
   rintro rfl
   exact hlen rfl
  rw[hn]
  clear hlen
  go_enter Tryz.func16,Tryz.ntmps16
  go_wp2_with fail
  go_ret
  exact⟨rfl,Kin.refl _⟩
structure RP (C:Ctx) (i:Nat) (b:Int) (w:World):Prop where
 blk:∃bo cap,w.heap[C.r]? =some (.cells #[.slice bo C.l.length cap, .int .i64 i, .int .i64 C.e, .int .i64 b] 93 (0,0))/\(C.l≠[]->bo=some ⟨C.g,0,none⟩)/\C.l.length<=cap
 toks:ToksAt C.l C.g w
 ne:C.l≠[]->C.g≠C.r
 le:i<=C.l.length
 len:C.l.length<=8193
 pos:∀t∈C.l,0<=t.pos
 e0:0<=C.e
theorem zaL{w:World}{r:Nat}{cs:Array Value}{t:TypeId}{f:Nat×Nat}(h:w.heap[r]? =some (.cells cs t f))(o:Nat)(v:Value):(w.setCell ⟨r,o,none⟩ v).heap[r]? =some (.cells (cs.setIfInBounds o v) t f):=by
 have hr:=(Array.getElem?_eq_some_iff.1 h).1
 unfold World.setCell
 simp only
 rw[Array.getElem?_modify]
 simp[h]
theorem RP.lt{C:Ctx}{i:Nat}{b:Int}{w:World}(h:RP C i b w):C.r<w.heap.size:=by
 obtain⟨bo,cap,h1,_⟩:=h.blk
 exact(Array.getElem?_eq_some_iff.1 h1).1
theorem ToksAt.glt{l:List Item}{g:Nat}{w:World}(h:ToksAt l g w)(hne:l≠[]):g<w.heap.size:=by
 cases l with
 |nil=>exact absurd rfl hne
 |cons t l=>exact World.block_lt_of_cell? w ⟨g,0*4,none⟩ (h.kind 0 t rfl)
theorem RP.kept{C:Ctx}{i:Nat}{b:Int}{w w':World}(h:RP C i b w)(hk:∀k,k<w.heap.size->w'.heap[k]? =w.heap[k]?):RP C i b w':=by
 obtain⟨bo,cap,h1,h2,h3⟩:=h.blk
 exact⟨⟨bo,cap,(hk _ h.lt).trans h1,h2,h3⟩,h.toks.of fun hne o=>World.cell?_of_block (a:=⟨C.g,o,none⟩) (hk _ (h.toks.glt hne)),h.ne,h.le,h.len,h.pos,h.e0⟩
theorem RP.kin{C:Ctx}{i:Nat}{b:Int}{w w':World}(h:RP C i b w)(K:Kin w w'):RP C i b w':=h.kept K.block
theorem RP.set{C:Ctx}{i j:Nat}{b b':Int}{w w':World}(h:RP C i b w)(hj:j<=C.l.length)(hg:w.grownBy w' (some C.r))(hb:∀bo cap,w.heap[C.r]? =some (.cells #[.slice bo C.l.length cap, .int .i64 i, .int .i64 C.e, .int .i64 b] 93 (0,0))->w'.heap[C.r]? =some (.cells #[.slice bo C.l.length cap, .int .i64 j, .int .i64 C.e, .int .i64 b'] 93 (0,0))):RP C j b' w':=by
 obtain⟨bo,cap,h1,h2,h3⟩:=h.blk
 exact⟨⟨bo,cap,hb bo cap h1,h2,h3⟩,h.toks.of fun hne o=>World.cell?_of_block (a:=⟨C.g,o,none⟩) (hg.block _ (h.toks.glt hne) (by intro e;exact h.ne hne (Option.some.inj e))),h.ne,hj,h.len,h.pos,h.e0⟩
theorem RP.setAt{C:Ctx}{i j:Nat}{b:Int}{w:World}(h:RP C i b w)(hj:j<=C.l.length):RP C j b (w.setCell ⟨C.r,1,none⟩ (.int .i64 j)):=
 h.set hj (zq w C.r 1 _) fun bo cap hb=>zaL hb 1 _
theorem RP.setBad{C:Ctx}{i:Nat}{b b':Int}{w:World}(h:RP C i b w):RP C i b' (w.setCell ⟨C.r,3,none⟩ (.int .i64 b')):=
 h.set h.le (zq w C.r 3 _) fun bo cap hb=>zaL hb 3 _
theorem RP.cells{C:Ctx}{i:Nat}{b:Int}{w:World}(h:RP C i b w):∃bo cap,(C.l≠[]->bo=some ⟨C.g,0,none⟩)/\C.l.length<=cap/\w.cell? ⟨C.r,0,none⟩=some (.slice bo C.l.length cap)/\w.cell? ⟨C.r,1,none⟩=some (.int .i64 i)/\w.cell? ⟨C.r,2,none⟩=some (.int .i64 C.e)/\w.cell? ⟨C.r,3,none⟩=some (.int .i64 b)/\w.frozen? ⟨C.r,1,none⟩=false/\w.frozen? ⟨C.r,3,none⟩=false:=by
 obtain⟨bo,cap,h1,h2,h3⟩:=h.blk
 refine⟨bo,cap,h2,h3,cell_put h1 rfl,cell_put h1 rfl,cell_put h1 rfl,cell_put h1 rfl,?_,?_⟩<;>(unfold World.frozen?;simp[h1])
theorem RP.drewN{C:Ctx}{i:Nat}{b:Int}{w:World}(h:RP C i b w)(n:Nat):RP C i b (w.drewN n):=h.kept fun _ _=>rfl
theorem yA{C:Ctx}{i:Nat}{b:Int}{w:World}(h:RP C i b w)(j:Nat):0<=placeOf C.l C.e j:=by
 unfold placeOf
 split
 ·rename_i t ht
  exact h.pos t (List.mem_of_getElem? ht)
 ·exact h.e0
theorem rplace_any(C:Ctx)(i:Nat)(b:Int)(w:World)(h:RP C i b w):Calls Tryz.prog 88 #[.pointer (some ⟨C.r,0,none⟩)] w fun x w'=>x= .returned (.int .i64 (placeOf C.l C.e i))/\∃n,w'=w.drewN n:=by
 obtain⟨bo,cap,hb,hcap,h0,h1,h2,h3,hf,hf2⟩:=h.cells
 have ht:=h.toks
 have hlen:=h.len
 have hle:=h.le
 obtain⟨l,e,te,pe,r,g⟩:=C
 simp only at h0 h1 h2 h3 hb hcap ht hf hle hlen⊢
 clear h
 by_cases hi:i<l.length
 ·obtain⟨t,hx⟩:∃t,l[i]? =some t:=⟨_,List.getElem?_eq_getElem hi⟩
  obtain rfl:=hb (by rintro rfl;simp at hi)
  have hp:=ht.pos i t hx
  have hpl:placeOf l e i=t.pos:=by unfold placeOf;rw[hx]
  rw[hpl]
  clear hpl ht hb hx
  go_enter Tryz.func88,Tryz.ntmps88
  go_wp2_with fail
  go_quiet (fail)
  go_wp2_with fail
  go_quiet (fail)
  go_wp2
  go_ret
  exact⟨rfl,_,World.drewN_drewN _ _ _⟩
 ·have hpl:placeOf l e i=e:=by unfold placeOf;rw[List.getElem?_eq_none (by omega)]
  rw[hpl]
  clear hpl ht hb
  go_enter Tryz.func88,Tryz.ntmps88
  go_wp2_with fail
  go_quiet (fail)
  go_wp2
  go_ret
  exact⟨rfl,_,rfl⟩
def bad1(C:Ctx)(i:Nat)(b:Int):Int:=if b<0 then placeOf C.l C.e i else b
theorem xJ(C:Ctx)(i:Nat)(b:Int)(w:World)(h:RP C i b w):Calls Tryz.prog 92 #[.pointer (some ⟨C.r,0,none⟩)] w fun x w'=>x= .returned (.tuple #[])/\RP C i (bad1 C i b) w'/\Grew C w w':=by
 obtain⟨bo,cap,hb,hcap,h0,h1,h2,h3,hf,hf2⟩:=h.cells
 have HP:=Lib.hid (rplace_any C i b w h)
 have HN:=Lib.hid (fun n=>(h.drewN n).setBad (b':=placeOf C.l C.e i))
 have H:=Lib.hid h
 have hrl:=h.lt
 clear h hb h0 h1 h2
 unfold bad1
 by_cases hb0:b<0
 ·rw[if_pos hb0]
  have hd:decide (b<0)=true:=decide_eq_true hb0
  go_enter Tryz.func92,Tryz.ntmps92
  go_wp2_with (go_at_call 88;with_reducible refine HP.out.mono ?_;rintro e w' ⟨rfl,n,rfl⟩)
  have h:=zq (w.drewN n) C.r 3 (.int .i64 (placeOf C.l C.e i))
  exact⟨rfl, .tuple #[],by simp[results,Tryz.f92],rfl,HN.out n,⟨h.os,h.tape,h.output,h.size,h.block⟩⟩
 ·rw[if_neg hb0]
  have hd:decide (b<0)=false:=decide_eq_false hb0
  go_enter Tryz.func92,Tryz.ntmps92
  go_wp2_with fail
  exact⟨rfl, .tuple #[],by simp[results,Tryz.f92],rfl,H.out,Grew.drewN w 0⟩
def isP(C:Ctx)(i:Nat)(b:Int)(s:ByteArray):Bool:=decide (b<0)&&comesB C.l i s
theorem gt(C:Ctx)(i:Nat)(b:Int)(s:ByteArray)(w:World)(h:RP C i b w):Calls Tryz.prog 46 #[.pointer (some ⟨C.r,0,none⟩), .string s] w fun x w'=>x= .returned (.bool (isP C i b s))/\∃n,w'=w.drewN n:=by
 obtain⟨bo,cap,hb,hcap,h0,h1,h2,h3,hf,hf2⟩:=h.cells
 have ht:=h.toks
 have hlen:=h.len
 have hle:=h.le
 unfold isP
 obtain⟨l,e,te,pe,r,g⟩:=C
 simp only at h0 h1 h2 h3 hb hcap ht hf hle hlen⊢
 clear h
 by_cases hb0:b<0
 ·have hd:decide (b<0)=true:=decide_eq_true hb0
  rw[hd,Bool.true_and]
  by_cases hi:i<l.length
  ·obtain⟨t,hx⟩:∃t,l[i]? =some t:=⟨_,List.getElem?_eq_getElem hi⟩
   obtain rfl:=hb (by rintro rfl;simp at hi)
   have hp:=ht.kind i t hx
   have hq:=ht.text i t hx
   have hpl:comesB l i s=(decide (t.kind≠1)&&(t.text.toList==s.toList)):=by unfold comesB;rw[hx]
   rw[hpl]
   clear hpl ht hb hx
   by_cases hk:t.kind=1
   ·rw[hk] at hp⊢
    clear hk
    go_enter Tryz.func46,Tryz.ntmps46
    go_wp2_with fail
    go_quiet (fail)
    go_wp2
    go_ret
    exact⟨rfl,_,rfl⟩
   ·have hk1:(t.kind==1)=false:=by simp[hk]
    have hk2:(t.kind !=1)=true:=by simp[hk]
    have hk3:(decide (t.kind≠1)&&(t.text.toList==s.toList))=(t.text.toList==s.toList):=by simp[hk]
    rw[hk3]
    clear hk hk3
    go_enter Tryz.func46,Tryz.ntmps46
    go_wp2_with fail
    go_quiet (fail)
    go_wp2
    go_ret
    exact⟨rfl,_,rfl⟩
  ·have hpl:comesB l i s=false:=by unfold comesB;rw[List.getElem?_eq_none (by omega)]
   have hdd:decide ((i:Int)<(l.length:Int))=false:=by simp;omega
   rw[hpl]
   clear hpl ht hb
   go_enter Tryz.func46,Tryz.ntmps46
   go_wp2_with fail
   go_quiet (fail)
   go_wp2
   go_ret
   exact⟨rfl,_,rfl⟩
 ·have hd:decide (b<0)=false:=decide_eq_false hb0
  rw[hd,Bool.false_and]
  clear ht hb
  go_enter Tryz.func46,Tryz.ntmps46
  go_wp2_with fail
  go_quiet (fail)
  go_wp2
  go_ret
  exact⟨rfl,_,rfl⟩
def zk(C:Ctx)(i:Nat)(b:Int)(s:ByteArray):Nat:=if isP C i b s then i+1 else i
def zn(C:Ctx)(i:Nat)(b:Int)(s:ByteArray):Int:=if isP C i b s then b else bad1 C i b
theorem isP_lt{C:Ctx}{i:Nat}{b:Int}{s:ByteArray}(h:isP C i b s=true):i<C.l.length/\b<0:=by
 unfold isP at h
 rw[Bool.and_eq_true,decide_eq_true_eq] at h
 exact⟨comes_lt h.2,h.1⟩
theorem grew_next'{C:Ctx}(w:World)(n:Nat)(o:Nat)(v:Value):Grew C w ((w.drewN n).setCell ⟨C.r,o,none⟩ v):=by
 have h:=zq (w.drewN n) C.r o v
 exact⟨h.os,h.tape,h.output,h.size,h.block⟩
theorem zA(C:Ctx)(i:Nat)(b:Int)(s:ByteArray)(w:World)(h:RP C i b w):Calls Tryz.prog 90 #[.pointer (some ⟨C.r,0,none⟩), .string s] w fun x w'=>x= .returned (.tuple #[])/\RP C (zk C i b s) (zn C i b s) w'/\Grew C w w':=by
 have HI:=Lib.hid (gt C i b s w h)
 unfold zk zn
 cases hi:isP C i b s with
 |true=>
  rw[hi] at HI
  obtain⟨hlt,hb⟩:=isP_lt hi
  obtain⟨bo,cap,_,_,_,h1,_,_,hf,_⟩:=h.cells
  have hlen:=h.len
  have hrl:=h.lt
  have HN:=Lib.hid (fun n=>(h.drewN n).setAt (j:=i+1) hlt)
  clear h
  go_enter Tryz.func90,Tryz.ntmps90
  go_wp2_with (go_at_call 46;with_reducible refine HI.out.mono ?_;rintro e w' ⟨rfl,n,rfl⟩)
  exact⟨rfl, .tuple #[],by simp[results,Tryz.f90],rfl,HN.out n,grew_next' _ _ _ _⟩
 |false=>
  rw[hi] at HI
  have HF:=Lib.hid (fun n=>xJ C i b _ (h.drewN n))
  clear h
  go_enter Tryz.func90,Tryz.ntmps90
  go_wp2_with (first|(go_at_call 46;with_reducible refine HI.out.mono ?_;rintro e w' ⟨rfl,n,rfl⟩)|(go_at_call 92;with_reducible refine(HF.out n).mono ?_;rintro e w' ⟨rfl,hR,hG⟩))
  exact⟨rfl, .tuple #[],by simp[results,Tryz.f90],rfl,hR,grown_trans (Grew.drewN w n) hG⟩
def namedP(C:Ctx)(i:Nat)(b:Int):Bool:=decide (b<0)&&namedB C.l i
theorem Kin.drewL{w w':World}(n:Nat)(K:Kin (w.drewN n) w'):Kin w w':=⟨K.os,K.out,K.size,K.block⟩
theorem qv(C:Ctx)(i:Nat)(b:Int)(w:World)(h:RP C i b w):Calls Tryz.prog 129 #[.pointer (some ⟨C.r,0,none⟩)] w fun x w'=>x= .returned (.bool (namedP C i b))/\Kin w w':=by
 obtain⟨bo,cap,hb,hcap,h0,h1,h2,h3,hf,hf2⟩:=h.cells
 have ht:=h.toks
 have hlen:=h.len
 have hle:=h.le
 unfold namedP
 obtain⟨l,e,te,pe,r,g⟩:=C
 simp only at h0 h1 h2 h3 hb hcap ht hf hle hlen⊢
 clear h
 by_cases hb0:b<0
 ·have hd:decide (b<0)=true:=decide_eq_true hb0
  rw[hd,Bool.true_and]
  by_cases hi:i<l.length
  ·obtain⟨t,hx⟩:∃t,l[i]? =some t:=⟨_,List.getElem?_eq_getElem hi⟩
   obtain rfl:=hb (by rintro rfl;simp at hi)
   have hp:=ht.kind i t hx
   have hq:=ht.text i t hx
   have hpl:namedB l i=(decide (t.kind=0)&&!ze t.text):=by unfold namedB;rw[hx]
   rw[hpl]
   clear hpl ht hb hx
   by_cases hk:t.kind=0
   ·rw[hk] at hp⊢
    clear hk
    go_enter Tryz.func129,Tryz.ntmps129
    go_wp2_with fail
    go_still_tail 43,(by kernel_rfl)
    change wpList _ _ _ _ _ w.drew
    generalize hw2:w.drew=w2
    go_wp2_with (go_at_call 134;with_reducible refine(zb4 _ _).mono ?_;rintro e w' ⟨rfl,K1⟩)
    go_ret
    subst hw2
    exact⟨rfl,K1.drewL 1⟩
   ·have hk1:(t.kind==0)=false:=by simp[hk]
    have hk2:(t.kind !=0)=true:=by simp[hk]
    have hk3:(decide (t.kind=0)&&!ze t.text)=false:=by simp[hk]
    rw[hk3]
    clear hk hk3
    go_enter Tryz.func129,Tryz.ntmps129
    go_wp2_with fail
    go_quiet (fail)
    go_wp2
    go_ret
    exact⟨rfl,(Kin.refl w).drewN _⟩
  ·have hpl:namedB l i=false:=by unfold namedB;rw[List.getElem?_eq_none (by omega)]
   have hdd:decide ((i:Int)<(l.length:Int))=false:=by simp;omega
   rw[hpl]
   clear hpl ht hb
   go_enter Tryz.func129,Tryz.ntmps129
   go_wp2_with fail
   go_quiet (fail)
   go_wp2
   go_ret
   exact⟨rfl,(Kin.refl w).drewN _⟩
 ·have hd:decide (b<0)=false:=decide_eq_false hb0
  rw[hd,Bool.false_and]
  clear ht hb
  go_enter Tryz.func129,Tryz.ntmps129
  go_wp2_with fail
  go_quiet (fail)
  go_wp2
  go_ret
  exact⟨rfl,(Kin.refl w).drewN _⟩
def nameJ(C:Ctx)(i:Nat)(b:Int):Nat:=if namedP C i b then i+1 else i
def zD(C:Ctx)(i:Nat)(b:Int):Int:=if namedP C i b then b else bad1 C i b
def zV(C:Ctx)(i:Nat)(b:Int):ByteArray:=if namedP C i b then textAt C.l i else ⟨#[]⟩
structure Gr (r:Nat) (w w':World):Prop where
 os:w'.os=w.os
 out:w'.output=w.output
 size:w.heap.size<=w'.heap.size
 block:∀k,k<w.heap.size->k≠r->w'.heap[k]? =w.heap[k]?
theorem Gr.refl(r:Nat)(w:World):Gr r w w:=⟨rfl,rfl,Nat.le_refl _,fun _ _ _=>rfl⟩
theorem Gr.trans{r:Nat}{a b c:World}(h:Gr r a b)(k:Gr r b c):Gr r a c:=⟨k.os.trans h.os,k.out.trans h.out,Nat.le_trans h.size k.size,fun j hj hr=>(k.block j (Nat.lt_of_lt_of_le hj h.size) hr).trans (h.block j hj hr)⟩
theorem Gr.of_kin{r:Nat}{w w':World}(K:Kin w w'):Gr r w w':=⟨K.os,K.out,K.size,fun k hk _=>K.block k hk⟩
theorem Gr.of_grew{C:Ctx}{w w':World}(h:Grew C w w'):Gr C.r w w':=⟨h.os,h.output,h.size,fun k hk hr=>h.block k hk (by intro e;exact hr (Option.some.inj e))⟩
theorem Gr.owns{r:Nat}{w w':World}{B n:Nat}{e:TypeId}{size:Nat}{v:Value}{xs:List Value}(G:Gr r w w')(h:w.ownsRow B e size v n xs)(hr:r<B):w'.ownsRow B e size v n xs:=by
 refine⟨h.1,h.2.imp id ?_⟩
 rintro⟨g,cap,cur,h1,h2,h3,h4⟩
 exact⟨g,cap,cur,h1,h2,(G.block g (Array.getElem?_eq_some_iff.1 h3).1 (by omega)).trans h3,h4⟩
theorem Gr.setCell{r:Nat}{w w':World}(h:Gr r w w')(o:Nat)(v:Value):Gr r w (w'.setCell ⟨r,o,none⟩ v):=by
 have g:=zq w' r o v
 exact h.trans ⟨g.os,g.output,g.size,fun k hk hr=>g.block k hk (by intro e;exact hr (Option.some.inj e))⟩
theorem Gr.drewN{r:Nat}{w w':World}(h:Gr r w w')(n:Nat):Gr r w (w'.drewN n):=⟨h.os,h.out,h.size,h.block⟩
theorem Gr.alloc{r:Nat}{w w':World}(h:Gr r w w')(o:Obj):Gr r w (w'.alloc o):=h.trans (.of_kin ((Kin.refl w').alloc o))
theorem xL(C:Ctx)(i:Nat)(b:Int)(w:World)(h:RP C i b w):Calls Tryz.prog 89 #[.pointer (some ⟨C.r,0,none⟩)] w fun x w'=>x= .returned (.string (zV C i b))/\RP C (nameJ C i b) (zD C i b) w'/\Gr C.r w w':=by
 have HI:=Lib.hid (qv C i b w h)
 unfold zV nameJ zD
 cases hi:namedP C i b with
 |true=>
  rw[hi] at HI
  have hnm:namedB C.l i=true:=by unfold namedP at hi;rw[Bool.and_eq_true] at hi;exact hi.2
  have hlt:=named_lt hnm
  obtain⟨t,ht⟩:∃t,C.l[i]? =some t:=⟨_,List.getElem?_eq_getElem hlt⟩
  have e:textAt C.l i=t.text:=by unfold textAt;rw[ht]
  have hne:C.l≠[]:=by rintro e;rw[e] at hlt;simp at hlt
  have HA:Hid (∀w1,Kin w w1->∃cap,C.l.length<=cap/\w1.cell? ⟨C.r,0,none⟩=some (.slice (some ⟨C.g,0,none⟩) C.l.length cap)/\w1.cell? ⟨C.r,1,none⟩=some (.int .i64 i)/\w1.frozen? ⟨C.r,1,none⟩=false/\w1.cell? ⟨C.g,i*4+1,none⟩=some (.string t.text)):=Lib.hid (fun w1 K=>by
   have h':=h.kin K
   obtain⟨bo,cap,hb,hcap,h0,h1,_,_,hf,_⟩:=h'.cells
   obtain rfl:=hb hne
   exact⟨cap,hcap,h0,h1,hf,h'.toks.text i t ht⟩)
  have HN:Hid (∀w1,Kin w w1->RP C (i+1) b (w1.setCell ⟨C.r,1,none⟩ (.int .i64 (i+1:Nat)))):=Lib.hid (fun w1 K=>(h.kin K).setAt hlt)
  have hg:¬C.r=C.g:=fun e=>h.ne hne e.symm
  have hl:=h.len
  simp only[if_true]
  rw[e]
  clear h ht e hi hnm
  go_enter Tryz.func89,Tryz.ntmps89
  go_wp2_with (go_at_call 129;with_reducible refine HI.out.mono ?_;rintro e w1 ⟨rfl,K1⟩;obtain⟨cap,hcap,q0,q1,qf,qt⟩:=HA.out w1 K1)
  go_quiet (fail)
  go_wp2
  go_ret
  exact⟨rfl,(HN.out w1 K1).drewN _,((Gr.of_kin K1).setCell _ _).drewN _⟩
 |false=>
  rw[hi] at HI
  have HF:Hid (∀w1,Kin w w1->Calls Tryz.prog 92 #[.pointer (some ⟨C.r,0,none⟩)] w1 fun x w'=>x= .returned (.tuple #[])/\RP C i (bad1 C i b) w'/\Grew C w1 w'):=Lib.hid (fun w1 K=>xJ C i b w1 (h.kin K))
  clear h
  simp only[if_neg (show ¬false=true by simp)]
  go_enter Tryz.func89,Tryz.ntmps89
  go_wp2_with (first|(go_at_call 129;with_reducible refine HI.out.mono ?_;rintro e w1 ⟨rfl,K1⟩)|(go_at_call 92;with_reducible refine(HF.out w1 K1).mono ?_;rintro e w' ⟨rfl,hR,hG⟩))
  go_ret
  exact⟨rfl,hR,(Gr.of_kin K1).trans (.of_grew hG)⟩
open Go.RowKit Go.Bsd
def fixedText:ByteArray:={data:= #[120,32,58,61,32,49,32,45,32,50,59]}
def fixedTree:List Nd:=[⟨1,2,{data:= #[120]},0,0,0⟩,⟨2,15,{data:= #[]},0,4,7⟩,⟨3,10,{data:= #[]},1,0,5⟩,⟨3,10,{data:= #[]},2,0,9⟩]
theorem zfs:(badOf (pieces fixedText)).1=0:=by kernel_rfl
theorem zhq:(rd (ctx0 fixedText) 60 .prog 0).map qj=some (.tree fixedTree):=by kernel_rfl
theorem zbc:xy fixedText (.tree fixedTree):=by
 unfold xy
 rw[if_neg (by decide),if_neg (by rw[zfs];simp)]
 obtain⟨r,h1,h2⟩:=Option.map_eq_some_iff.1 zhq
 exact⟨60,r,h1,h2.symm⟩
theorem zb8:ju fixedTree=(0,0):=by kernel_rfl
theorem zbb:ju (fixedTree.take 3)=(33,3):=by kernel_rfl
theorem NodesAt.of_owns{w:World}{base:Nat}{v:Value}{l:List Nd}(h:w.ownsRow base 50 6 v l.length (ndCells l)):NodesAt w v l:=by
 have h0:=h
 rcases h.2 with⟨rfl,hn⟩|⟨g,cap,cur,rfl,hb,hg,hc,_,_,_⟩
 ·refine⟨none,0,by rw[hn],by omega,fun hl=>absurd (List.eq_nil_of_length_eq_zero hn) hl⟩
 ·refine⟨_,cap,rfl,hc,fun _=>⟨g,0,rfl,fun j n hj k c hk=>?_⟩⟩
  have hk6:k<6:=by have:=(List.getElem?_eq_some_iff.1 hk).1;simpa [Nd.cells] using this
  have:=h0.cells rfl (j*6+k) c ((nd_get hj k hk6).trans hk)
  rw[show((⟨g,0,none⟩:Addr).add (j*6+k))=⟨g,j*6+k,none⟩ from by unfold Addr.add;split<;>simp_all] at this
  rw[show 0+j*6+k=j*6+k from by omega]
  exact this
theorem NodesAt.of_block{w:World}{g:Nat}{cur:Array Value}{l:List Nd}{n cap:Nat}(hg:w.heap[g]? =some (.cells cur 50 (0,0)))(hc:cur.toList.take (l.length*6)=ndCells l)(hn:n=l.length)(hcap:l.length<=cap):NodesAt w (.slice (some ⟨g,0,none⟩) n cap) l:=by
 refine⟨_,cap,by rw[hn],hcap,fun _=>⟨g,0,rfl,fun j n hj k c hk=>?_⟩⟩
 have hk6:k<6:=by have:=(List.getElem?_eq_some_iff.1 hk).1;simpa [Nd.cells] using this
 have hjl:=(List.getElem?_eq_some_iff.1 hj).1
 have h2:=(nd_get hj k hk6).trans hk
 rw[<-hc,List.getElem?_take,if_pos (by omega)] at h2
 rw[show 0+j*6+k=j*6+k from by omega]
 unfold World.cell?
 simp[hg]
 simpa using h2
theorem yd(w:World)(T:Nat->Question->Nat)(d:Nat):Kin w (re w T d):=⟨rfl,rfl,Nat.le_refl _,fun _ _=>rfl⟩
def TrueP(w:World):Ending->World->Prop
 | .returned v,w'=>v= .bool true/\Kin w w'
 |_,_=>False
open Go.RowKit
def xO(l:List Nd):List Nd:=l.map fun n=>{n with depth:=n.depth+1}
theorem xb(a b:List Nd):ndCells (a++b)=ndCells a++ndCells b:=by simp[ndCells]
theorem zaX(n:Nd):ndCells [n]=n.cells:=by simp[ndCells]
theorem zdZ(l:List Nd)(hlen:l.length<=100000)(hdep:∀n∈l,0<=n.depth/\n.depth<=200000)(v:Value)(w:World)(hv:NodesAt w v l):
 Calls Tryz.prog 130 #[v] w fun e w'=>∃v',e= .returned v'/\(l=[]->v'= .slice none 0 0)/\w'.ownsRow w.heap.size 50 6 v' l.length (ndCells (xO l))/\Kin w w':=by
 obtain⟨ti,hi,hz0,hz1,hz2⟩:=info_parts kN
 have HN:=Lib.hid hv
 have HD:=Lib.hid hdep
 obtain⟨b,cap,rfl,hcap,hne⟩:=hv
 clear hne hdep
 go_enter Tryz.func130,Tryz.ntmps130
 go_wp2_with fail
 go_loopg [3,4] l.length (fun gg x y wr=>∃k:Nat,y= .int .i64 k/\k<=l.length/\gg=l.length-k/\Kin w wr/\wr.ownsRow w.heap.size 50 6 x (l.take k).length (ndCells (xO (l.take k)))/\(k=0->x= .slice none 0 0))
 case atStart=>exact⟨0,rfl,Nat.zero_le _,rfl,Kin.refl _,World.ownsRow_nil _ _ _ _,fun _=>rfl⟩
 case round=>
  obtain⟨k,rfl,hk,hgg,hK,hO,h0⟩:=hrel
  have HG:=Lib.hid hgg
  have HK:=Lib.hid hK
  have HO:=Lib.hid hO
  have H0:=Lib.hid h0
  clear hgg hK hO h0
  by_cases hlt:k<l.length
  ·obtain⟨n,hn⟩:∃n,l[k]? =some n:=⟨_,List.getElem?_eq_getElem hlt⟩
   obtain⟨g,off,rfl,hcell⟩:=HN.out.at (by rintro rfl;simp at hlt)
   have cells:∀(x:Nat) (c:Value),n.cells[x]? =some c->wr.cell? ⟨g,off+k*6+x,none⟩=some c:=fun x c hx=>by
    have:=hcell k _ hn x c hx
    exact(HK.out.cell (World.block_lt_of_cell? w _ this)).trans this
   have r0:=cells 0 _ rfl
   have r1:=cells 1 _ rfl
   have r2:=cells 2 _ rfl
   have r3:=cells 3 _ rfl
   have r4:=cells 4 _ rfl
   have r5:=cells 5 _ rfl
   rw[Nat.add_zero] at r0
   have hdn:=HD.out n (List.mem_of_getElem? hn)
   have hov:¬9223372036854775807<n.depth+1:=by omega
   have htk:(l.take k).length=k:=by rw[List.length_take];omega
   have HNN:=Lib.hid hn
   have hz:=HK.out.size
   clear cells hcell hn
   go_wp2_with (at_builtin;refine wpList_append_own _ rfl (.tmp 20) (.tmp 22) 25 rfl w.heap.size 50 ti _ 6 56 Tryz.underlying25 hi hz0 hz1 hz2 rfl (by decide) _ _ _ rfl ((HO.out.alloc _).alloc _) ⟨wr.heap.size+1,0,none⟩ 1 1 (Nd.cells {n with depth:=n.depth+1}) rfl rfl (by simpa using zhK (wr.alloc _) {n with depth:=n.depth+1}) (zbl _) (by unfold maxLen;omega) (by omega) (by simp;omega) ?_;intro v1 w1 hown1 hgrow1 _)
   have K1:Kin w w1:=((HK.out.alloc _).alloc _).grownK hgrow1 (fun b hb=>(HO.out.lt b hb).1)
   have HK1:=Lib.hid K1
   have HO1:=Lib.hid hown1
   clear hown1 hgrow1 K1
   go_wp2_with fail
   go_roundg (l.length-(k+1))
   case measure=>have:=HG.out;omega
   case rel=>
    have e:l.take (k+1)=l.take k++[n]:=by rw[List.take_add_one,HNN.out];rfl
    refine⟨k+1,by simp,by omega,rfl,HK1.out,?_,fun h=>by omega⟩
    rw[e]
    have:=HO1.out
    simpa [xO,ndCells] using this
  ·obtain rfl:k=l.length:=by omega
   go_wp2_with fail
   go_ret
   have h:=HO.out
   rw[List.take_length] at h
   exact⟨_,rfl,fun hl=>H0.out (by rw[hl];rfl),h,HK.out⟩
def topN(n:Nd):Nd:={n with depth:=1}
def xk(vs:List (Value×List Nd)):List Nd:=vs.flatMap fun x=>xO x.2
def nodeL(n:Nd)(vs:List (Value×List Nd)):List Nd:=topN n::xk vs
theorem xh(l:List Nd):(xO l).length=l.length:=List.length_map _
theorem qn(l:List Nd):∀u∈ndCells l,u.oneCell'=true:=by
 intro u hu
 simp only[ndCells,List.mem_flatMap] at hu
 obtain⟨n,_,hn⟩:=hu
 exact zbl n u hn
def kU(w:World)(hb:Value)(vs:List (Value×List Nd)):Prop:=∃bo cap,hb= .slice bo vs.length cap/\(vs≠[]->∃h,bo=some ⟨h,0,none⟩/\vs.length<=cap/\∀(j:Nat) x,vs[j]? =some x->w.cell? ⟨h,j,none⟩=some x.1)
theorem zg2(n:Nd)(vs:List (Value×List Nd))(hvl:vs.length<=3)(hb:Value)(w:World)(hheld:kU w hb vs)(hN:∀x∈vs,NodesAt w x.1 x.2)(hlen:∀x∈vs,x.2.length<=20000)(hdep:∀x∈vs,∀m∈x.2,0<=m.depth/\m.depth<=200000):
 Calls Tryz.prog 91 #[.agg #[.int .i64 n.depth, .int .i64 n.kind, .string n.name, .int .i64 n.num, .int .i64 n.op, .int .i64 n.at_],hb] w fun e w'=>∃v,e= .returned v/\w'.ownsRow w.heap.size 50 6 v (nodeL n vs).length (ndCells (nodeL n vs))/\Kin w w':=by
 obtain⟨ti,hi,hz0,hz1,hz2⟩:=info_parts kN
 obtain⟨bo,cap,rfl,hcell⟩:=hheld
 have HC:=Lib.hid hcell
 have HN:=Lib.hid hN
 have HL:=Lib.hid hlen
 have HD:=Lib.hid hdep
 clear hcell hN hlen hdep
 go_enter Tryz.func91,Tryz.ntmps91
 go_wp2_with fail
 have HO0:Hid (((w.alloc (.cells #[.int .i64 1, .int .i64 n.kind, .string n.name, .int .i64 n.num, .int .i64 n.op, .int .i64 n.at_] 50)).alloc (.cells #[.int .i64 1, .int .i64 n.kind, .string n.name, .int .i64 n.num, .int .i64 n.op, .int .i64 n.at_] 50)).ownsRow w.heap.size 50 6 (.slice (some ⟨w.heap.size+1,0,none⟩) 1 1) 1 (topN n).cells):=Lib.hid (by
  have:=World.ownsRow_lit (base:=w.heap.size) (e:=50) (size:=6) (w.alloc (.cells #[.int .i64 1, .int .i64 n.kind, .string n.name, .int .i64 n.num, .int .i64 n.op, .int .i64 n.at_] 50)) #[.int .i64 1, .int .i64 n.kind, .string n.name, .int .i64 n.num, .int .i64 n.op, .int .i64 n.at_] 1 (by simp) (by decide) rfl
  have e:(topN n).cells=[.int .i64 1, .int .i64 n.kind, .string n.name, .int .i64 n.num, .int .i64 n.op, .int .i64 n.at_]:=rfl
  rw[e]
  simpa using this)
 have HK0:Hid (Kin w ((w.alloc (.cells #[.int .i64 1, .int .i64 n.kind, .string n.name, .int .i64 n.num, .int .i64 n.op, .int .i64 n.at_] 50)).alloc (.cells #[.int .i64 1, .int .i64 n.kind, .string n.name, .int .i64 n.num, .int .i64 n.op, .int .i64 n.at_] 50))):=Lib.hid (((Kin.refl w).alloc _).alloc _)
 go_loopg [5,6] vs.length (fun gg x y wr=>∃k:Nat,y= .int .i64 k/\k<=vs.length/\gg=vs.length-k/\Kin w wr/\wr.ownsRow w.heap.size 50 6 x (nodeL n (vs.take k)).length (ndCells (nodeL n (vs.take k)))/\(nodeL n (vs.take k)).length<=1+20000*k)
 case atStart=>
  refine⟨0,rfl,Nat.zero_le _,rfl,HK0.out,?_,by simp[nodeL,xk]⟩
  simpa [nodeL,xk,ndCells,topN] using HO0.out
 case round=>
  obtain⟨k,rfl,hk,hgg,hK,hO,hcnt⟩:=hrel
  have HG:=Lib.hid hgg
  have HK:=Lib.hid hK
  have HO:=Lib.hid hO
  clear hgg hK hO
  by_cases hlt:k<vs.length
  ·obtain⟨⟨xv,xl⟩,hx⟩:∃x,vs[k]? =some x:=⟨_,List.getElem?_eq_getElem hlt⟩
   have hxm:=List.mem_of_getElem? hx
   obtain⟨h,rfl,hcap,hcl⟩:=HC.out (by rintro rfl;simp at hlt)
   have hc0:=hcl k _ hx
   have hc1:wr.cell? ⟨h,k,none⟩=some xv:=(HK.out.cell (World.block_lt_of_cell? w _ hc0)).trans hc0
   have hxl:=HL.out _ hxm
   have HDP:=Lib.hid (zdZ xl (by simp only at hxl;omega) (HD.out _ hxm) xv wr ((HN.out _ hxm).kin HK.out))
   have HX:=Lib.hid hx
   have e:vs.take (k+1)=vs.take k++[(xv,xl)]:=by rw[List.take_add_one,hx];rfl
   have e2:nodeL n (vs.take (k+1))=nodeL n (vs.take k)++xO xl:=by rw[e];simp[nodeL,xk]
   have HE:=Lib.hid e2
   have hz:=HK.out.size
   simp only at hxl
   clear hcl hc0 hx hxm e e2
   have hnl:=zS (nodeL n (vs.take k))
   by_cases hxe:xl=[]
   ·subst hxe
    go_wp2_with (first|(go_at_call 130;with_reducible refine HDP.out.mono ?_;rintro e w1 ⟨v1,rfl,hnil,hown1,K1⟩;obtain rfl:=hnil rfl;have hO1:=owns_kin HO.out K1)|(at_builtin;refine wpList_append_own_none rfl (.tmp 16) (.tmp 21) 25 rfl w.heap.size 50 ti 6 Tryz.underlying25 hi _ _ _ rfl hO1 rfl ?_))
    go_roundg (vs.length-(k+1))
    case measure=>have:=HG.out;omega
    case rel=>
     refine⟨k+1,by simp,by omega,rfl,HK.out.trans K1,?_,?_⟩
     ·rw[HE.out]
      simpa [xO] using hO1
     ·rw[HE.out];simp[xO];omega
   ·have hpos:0<xl.length:=by cases xl with
     |nil=>exact absurd rfl hxe
     |cons a l=>simp
    go_wp2_with (first|(go_at_call 130;with_reducible refine HDP.out.mono ?_;rintro e w1 ⟨v1,rfl,_,hown1,K1⟩;obtain⟨g1,cap1,rfl,hg1⟩:=hown1.form hpos;have hO1:=owns_kin HO.out K1)|(at_builtin;refine wpList_append_own _ rfl (.tmp 16) (.tmp 21) 25 rfl w.heap.size 50 ti _ 6 56 Tryz.underlying25 hi hz0 hz1 hz2 rfl (by decide) _ _ _ rfl hO1 ⟨g1,0,none⟩ xl.length cap1 (ndCells (xO xl)) rfl (by rw[zS,xh]) (hown1.cells rfl) (qn _) (by unfold maxLen;omega) (by omega) (Nat.le_trans hz K1.size) ?_;intro v2 w2 hown2 hgrow2 _))
    go_roundg (vs.length-(k+1))
    case measure=>have:=HG.out;omega
    case rel=>
     refine⟨k+1,by simp,by omega,rfl,(HK.out.trans K1).grownK hgrow2 (fun b hb=>(hO1.lt b hb).1),?_,?_⟩
     ·rw[HE.out,List.length_append,xh,xb]
      exact hown2
     ·rw[HE.out,List.length_append,xh];omega
  ·obtain rfl:k=vs.length:=by omega
   go_wp2_with fail
   go_ret
   have h:=HO.out
   rw[List.take_length] at h
   exact⟨_,rfl,h,HK.out⟩
def markN(k i:Nat):Nd:=⟨-1-k,0,⟨#[]⟩,0,0,i⟩
def behN(k:Nat):Nd:=⟨-1000-k,0,⟨#[]⟩,0,0,0⟩
theorem uL(k i:Nat)(hk:k<=100000)(w:World):Calls Tryz.prog 49 #[.int .i64 k, .int .i64 i] w fun e w'=>e= .returned (.agg #[.int .i64 (-1-k), .int .i64 0, .string ⟨#[]⟩, .int .i64 0, .int .i64 0, .int .i64 i])/\w'=w.alloc (.cells #[.int .i64 (-1-k), .int .i64 0, .string ⟨#[]⟩, .int .i64 0, .int .i64 0, .int .i64 i] 50):=by
 go_enter Tryz.func49,Tryz.ntmps49
 go_wp2
 exact bodyPost_ret (v:= .agg #[.int .i64 (-1-k), .int .i64 0, .string ⟨#[]⟩, .int .i64 0, .int .i64 0, .int .i64 i]) (by simp[results,Tryz.f49,go_sem];try rfl) rfl ⟨rfl,rfl⟩
theorem zam(k:Nat)(hk:k<=100000)(w:World):Calls Tryz.prog 50 #[.int .i64 k] w fun e w'=>e= .returned (.agg #[.int .i64 (-1000-k), .int .i64 0, .string ⟨#[]⟩, .int .i64 0, .int .i64 0, .int .i64 0])/\w'=w.alloc (.cells #[.int .i64 (-1000-k), .int .i64 0, .string ⟨#[]⟩, .int .i64 0, .int .i64 0, .int .i64 0] 50):=by
 go_enter Tryz.func50,Tryz.ntmps50
 go_wp2
 exact bodyPost_ret (v:= .agg #[.int .i64 (-1000-k), .int .i64 0, .string ⟨#[]⟩, .int .i64 0, .int .i64 0, .int .i64 0]) (by simp[results,Tryz.f50,go_sem];try rfl) rfl ⟨rfl,rfl⟩
def qa(w:World)(B:Nat)(vs:List Value)(f:Nat->List Nd):Prop:=∀k v,vs[k]? =some v->w.ownsRow B 50 6 v (f k).length (ndCells (f k))
def Sep(vs:List Value):Prop:=∀(j k:Nat) (v v':Value) (b:Nat),j≠k->vs[j]? =some v->vs[k]? =some v'->v.ownBlock=some b->v'.ownBlock≠some b
theorem qa.kin{w w':World}{B:Nat}{vs:List Value}{f:Nat->List Nd}(h:qa w B vs f)(K:Kin w w'):qa w' B vs f:=fun k v hv=>owns_kin (h k v hv) K
theorem qa.wrote{w w':World}{B:Nat}{vs:List Value}{f:Nat->List Nd}(h:qa w B vs f)(hs:Sep vs){k:Nat}{v:Value}(hv:vs[k]? =some v){row:Option Nat}(hr:row=v.ownBlock)(hg:w.grownBy w' row){l:List Nd}(hl:w'.ownsRow B 50 6 v l.length (ndCells l)):qa w' B vs (fun j=>if j=k then l else f j):=by
 intro j u hu
 by_cases e:j=k
 ·subst e
  rw[hv] at hu
  cases hu
  simp only[if_true]
  exact hl
 ·simp only[if_neg e]
  refine(h j u hu).kept hg ?_
  cases hb:u.ownBlock with
  |none=>exact .inl rfl
  |some b=>
   right
   rw[hr]
   intro e2
   exact hs j k u v b e hu hv hb (by rw[<-e2])
end Go.Proofs.YtonmcakdofbjiaaGreatDoor
