/- A part. -/
import Derived.Test.YtonmcakdofbjiaaGreatDoorK18
import Derived.Recover
import Derived.Outline
import Derived.Laws.NewBlocks
import Derived.Test.YtonmcakdofbjiaaGreatDoorK14
import Derived.BigRegion
import Derived.Deep.RegionHeld3
import Derived.Deep.RegionLaw
set_option linter.all false
set_option maxRecDepth 100000
set_option maxHeartbeats 8000000
namespace Go.Proofs.YtonmcakdofbjiaaGreatDoor
open Go.RowKit
theorem zbY(p q:Addr)(w:World):
 CallsD Tryz.prog 42 #[.pointer (some p), .pointer (some q)] .returning w fun e u' w'=>e= .returned (.tuple #[])/\u'= .returning/\w'=w:=by
 refine callsD_of_wpS Tryz.func42 rfl fun c₀ cs hu=>?_
 apply wpS_seq
 apply wpS_region
 simp[wpOpsS,go_sem,recoverD,hu,Tryz.ntmps42,Exit.thenS]
 refine wpS_of_wp ?_
 simp only[Array.replicate_succ,Array.replicate_zero,List.push_toArray,List.append_toArray,List.nil_append,List.cons_append,List.setIfInBounds_toArray,List.set_cons_succ,List.set_cons_zero]
 go_wp2
 cases c₀
 simp_all [bodyPostS,results,Tryz.results42]
theorem pcatch_panicking(b g:Nat)(v0:Option Addr)(n0 m0:Nat)(w:World)(c1:w.cell? ⟨b,0,none⟩=some (.slice v0 n0 m0))(c2:w.cell? ⟨b+1,0,none⟩=some .nilIface)(fp:w.frozen? ⟨b,0,none⟩=false)(fq:w.frozen? ⟨b+1,0,none⟩=false)(hl:b+1<w.heap.size):
 CallsD Tryz.prog 42 #[.pointer (some ⟨b,0,none⟩), .pointer (some ⟨b+1,0,none⟩)] (.panicking [{v:= .iface 71 (.pointer (some ⟨g,0,none⟩)),recovered:=false}]) w fun e u' w'=>e= .returned (.tuple #[])/\u'= .panicking [{v:= .iface 71 (.pointer (some ⟨g,0,none⟩)),recovered:=true}]/\w'=(w.setCell ⟨b,0,none⟩ (.slice none 0 0)).setCell ⟨b+1,0,none⟩ (.iface 71 (.pointer (some ⟨g,0,none⟩))):=by
 have ta:∀w,(Instr.typeAssert (.iface 71 (.pointer (some ⟨g,0,none⟩))) 20 71 true).run Tryz.prog w= .ok (.tuple #[.pointer (some ⟨g,0,none⟩), .bool true]) w:=fun w=>by kernel_rfl
 refine callsD_of_wpS Tryz.func42 rfl fun c₀ cs hu=>?_
 apply wpS_seq
 apply wpS_region
 simp[wpOpsS,go_sem,recoverD,hu,Tryz.ntmps42,Exit.thenS,ta]
 refine wpS_of_wp ?_
 simp only[Array.replicate_succ,Array.replicate_zero,List.push_toArray,List.append_toArray,List.nil_append,List.cons_append,List.setIfInBounds_toArray,List.set_cons_succ,List.set_cons_zero]
 go_wp2
 cases c₀
 simp_all [bodyPostS,results,Tryz.results42]
open Go.RowKit Go.Bsd Go.Conc
def chAct(s:ByteArray)(c:Nat):Act:=
 {tmps:= #[.string s,undef, .slice none 0 0, .int .i64 0, .int .i64 0, .chan (some c),undef,undef,undef, .string s, .int .i64 s.size, .bool false, .chan (some c),undef,undef,undef,undef,undef,undef,undef,undef,undef,undef,undef,undef,undef,undef,undef,undef,undef,undef,undef,undef,undef,undef,undef],defers:=[]}
theorem zil:∃id,tkGo= .region id (zo tkGo) false/\(zo tkGo).size=3:=⟨_,rfl,rfl⟩
def vR:Oper:={dst:=none,op:=Op.go {callee:=Callee.value (Operand.func 77),args:= #[Operand.tmp 13,Operand.tmp 14],argTypes:= #[9,188]},type:=0,pos:= "lex.go:116",after:= #[{on:=0,ground:=Ground.data},{on:=1,ground:=Ground.data}],guard:=none}
theorem zhl(s:ByteArray)(c:Nat)(cs:List Frame)(w:World):
 stepG Tryz.prog true (Go.Conc.G ((base0 40).at (goAct s c) [.inRegion (zo tkGo) [2], .code tk4]) cs) w= .spawn (Go.Conc.G (frc s c) cs) (born Tryz.prog (qP s c)) w #[]:=by
 have hr:(execOp (goAct s c).eval vR).runT Tryz.prog w #[]=(.ok (.spawn (qP s c)) w,#[]):=by
  simp[execOp,vR,resolve,xZ,goAct,qP,Sem.runT,Deferred.ofValue,Act.eval]
 have he1:(execOp (goAct s c).eval vR).run Tryz.prog w= .ok (.spawn (qP s c)) w:=by rw[<-Sem.runT_fst (es:= #[]),hr]
 have he2:(execOp (goAct s c).eval vR).events Tryz.prog w #[]= #[]:=by unfold Sem.events;rw[hr]
 have:=stepG_spawn (P:=Tryz.prog) (main:=true) (b:=base0 40) (a:=goAct s c) (k:=[.code tk4]) (cs:=cs) (w:=w) (ops:=zo tkGo) (i:=2) (rest:=[]) (o:=vR) (d:=qP s c) (w':=w) rfl rfl (by simp[base0]) he1 rfl
 rw[listed_none he2] at this
 exact this
theorem zia(s:ByteArray)(f:FuncId)(c:Nat):yL (Xc s f c):=fun g w T d ⟨a,b,sl,h1,h2,h3⟩=>
 let ⟨x0,x1,x2,x3,h⟩:=h3.bad
 ⟨a,b,sl,h1,h2,h3.chan,h3.own,⟨x0,x1,x2,x3,h.c0,h.c1,h.c2,h.c3,h.c4,h.c5,h.f0,h.f1,h.f2,h.f3,h.f4,h.f5⟩,h3.lt,h3.ltc⟩
theorem xc_recv(s:ByteArray)(f:FuncId)(c:Nat):∀g v,Xc s f c g v->jz Tryz.prog f c ((pieces s).length+1) g v:=by
 rintro g v ⟨a,b,sl,rfl,h2,h3⟩
 refine⟨_,zeroItem,true,rfl,rfl,fun T d=>vF s c b sl a _ h2 _,?_⟩
 have:=h3.chan
 rw[List.drop_length] at this
 exact⟨_,_,this⟩
theorem tame_recvK(a:Act):zs ((base0 40).at a yP):=by
 intro i hi
 have:i∈yP:=hi
 simp only[yP,jo,List.mem_cons,List.not_mem_nil,or_false] at this
 rcases this with rfl|rfl|rfl|rfl|rfl<;>trivial
theorem tok_pipe(hP:TameProg Tryz.prog)(s:ByteArray)(hs:¬8192<s.size)(w0:World)(hv:VarsOk w0)(cs:List Frame):
 Bes Tryz.prog (Leav Tryz.prog 40 (qy s w0) cs) (Go.Conc.G ((base0 40).at (goAct s w0.heap.size) [.inRegion (zo tkGo) [2], .code tk4]) cs) (w0.alloc (.chan 16 #[] false 0 0 false)):=by
 intro hr ht
 have hvW:VarsOk (w0.alloc (.chan 16 #[] false 0 0 false)):=by
  have g:=World.grownBy_alloc w0 (.chan 16 #[] false 0 0 false) none
  exact hv.kin ⟨rfl,rfl,g.size,fun k hk=>g.block k hk (by simp)⟩
 have hsz:=hv.size
 have h9z:9<w0.heap.size:=by obtain⟨_,_,_,_,q⟩:=hv.far 9 (.inr rfl);exact lt_of_some q
 obtain⟨o8,o9,⟨t8,p8,h8⟩,⟨t9,p9,h9⟩,hz9,hGW⟩:=hvW.stands
 have hcl:w0.heap.size<(w0.alloc (.chan 16 #[] false 0 0 false)).heap.size:=by simp
 have hclp:w0.heap.size<(farW (w0.alloc (.chan 16 #[] false 0 0 false)) o8 o9).heap.size:=by rw[farW_size];exact hcl
 have hlen:((pieces s).map Item.v).length=(pieces s).length:=List.length_map _
 have hpl:=jC s
 have hMp:=zht s 40 w0.heap.size (farW (w0.alloc (.chan 16 #[] false 0 0 false)) o8 o9) (by omega) hclp _ _ h8 h9 ⟨_,_,rfl⟩ ⟨_,_,rfl⟩ (by omega) (by omega)
 have hMc:=zgq s 40 w0.heap.size (w0.alloc (.chan 16 #[] false 0 0 false)) (by omega) hcl
 rw[<-hlen] at hMp hMc
 refine(zhy (P:=Tryz.prog) (f:=40) (c:=w0.heap.size) (cap:=16) (L:=(pieces s).map Item.v) (l0:=cs) (Gb:=fun y=>y=5\/y=6\/y=7\/y=8\/y=9) (W:=w0.alloc (.chan 16 #[] false 0 0 false)) (Wp:=farW (w0.alloc (.chan 16 #[] false 0 0 false)) o8 o9) (Xc:=Xc s 40 w0.heap.size) (Xp:=Xp s 40 w0.heap.size (farW (w0.alloc (.chan 16 #[] false 0 0 false)) o8 o9))
  (ts:= #[188]) (ty:=0) (cn:= #[false]) hP zgQ zdC ?_ rfl (fun T d=>zhl s _ cs _) (zi3 s _) (frel_prod s _ _) rfl rfl ?_ (frel_cons s _) rfl ?_ ht.2 (by decide) (heap_alloc_new w0 _) ?_ (fun g hg=>by simpa [inG,zv] using hg) hGW (farW_size _ _ _) rfl (by omega) hMp hMc (zh9 _ _ _ _) (zia _ _ _) ?_ ?_ ?_ ?_).bind ?_ hr ht
 ·intro x hx
  obtain⟨y,_,rfl⟩:=List.mem_map.1 hx
  exact plainV_item y
 ·intro i hi
  have:i= .code yF:=List.mem_singleton.1 hi
  subst this
  trivial
 ·intro i hi
  have hi:i∈[.inRegion (zo tkGo) [], .code tk4]:=hi
  simp only[List.mem_cons,List.not_mem_nil,or_false] at hi
  rcases hi with rfl|rfl<;>trivial
 ·intro g hg
  exact absurd hg (by simp[inG])
 ·intro g v hx
  have:=zgl s 40 w0.heap.size _ g v hx
  exact this
 ·rintro g v ⟨fr,h1,h2,h3,h4,h5,h6⟩ y hy hyc
  exact h5 y (by rw[farW_size];omega) hyc
 ·intro g v hx
  rw[hlen]
  exact xc_recv s _ _ g v hx
 ·rintro g v ⟨a,b,sl,rfl,_⟩
  exact tame_recvK a
 ·rintro g w1 ⟨ρ,fr,fr',z,z',ok,v,hE⟩
  exact tok_tail hP s 40 w0.heap.size w0 _ cs hs rfl ⟨_,rfl⟩ hE
theorem tok_go(hP:TameProg Tryz.prog)(s:ByteArray)(hs:¬8192<s.size)(w0:World)(hv:VarsOk w0):
 jH Tryz.prog 40 (qy s w0) (seqR tk2) (chAct s w0.heap.size) (w0.alloc (.chan 16 #[] false 0 0 false)):=by
 intro cs
 have e:seqR tk2= .seq tkGo tk4:=rfl
 rw[e]
 obtain⟨id,hid,h3⟩:=zil
 refine head1 hP (fun w=>step_seq) ?_
 have hreg:∀w,step Tryz.prog (lone ((base0 40).at (chAct s w0.heap.size) [.code tkGo, .code tk4]) cs w)= .next (lone ((base0 40).at (chAct s w0.heap.size) [.inRegion (zo tkGo) [0,1,2], .code tk4]) cs w):=fun w=>by
  have:=step_region (P:=Tryz.prog) (b:=base0 40) (a:=chAct s w0.heap.size) (k:=[.code tk4]) (cs:=cs) (w:=w) (ops:=zo tkGo) (id:=id)
  rw[<-hid,h3] at this
  exact this
 refine head1 hP hreg ?_
 have m1:∀w,step Tryz.prog (lone ((base0 40).at (chAct s w0.heap.size) [.inRegion (zo tkGo) [0,1,2], .code tk4]) cs w)=_:=fun w=>
  qw (P:=Tryz.prog) (b:=base0 40) (a:=chAct s w0.heap.size) (k:=[.code tk4]) (cs:=cs) (ops:=zo tkGo) (i:=0) (rest:=[1,2]) (w:=w) (w':=w) (v:= .string s)
   (o:={dst:=some 13,op:=Op.move (Operand.tmp 0),type:=9,pos:= "lex.go:116",after:= #[],guard:=none}) rfl rfl (by simp[execOp,xZ,chAct])
 refine head1 hP m1 ?_
 have m2:∀w,step Tryz.prog (lone ((base0 40).at ((chAct s w0.heap.size).put (some 13) (.string s)) [.inRegion (zo tkGo) [1,2], .code tk4]) cs w)=_:=fun w=>
  qw (P:=Tryz.prog) (b:=base0 40) (a:=(chAct s w0.heap.size).put (some 13) (.string s)) (k:=[.code tk4]) (cs:=cs) (ops:=zo tkGo) (i:=1) (rest:=[2]) (w:=w) (w':=w) (v:= .chan (some w0.heap.size))
   (o:={dst:=some 14,op:=Op.move (Operand.tmp 5),type:=136,pos:= "lex.go:116",after:= #[],guard:=none}) rfl rfl (by simp[execOp,xZ,chAct,Act.put])
 refine head1 hP m2 ?_
 exact tok_pipe hP s hs w0 hv cs
theorem zjz(w:World):(Instr.makeChan 136 (.int .i64 16)).run Tryz.prog w= .ok (.chan (some w.heap.size)) (w.alloc (.chan 16 #[] false 0 0 false)):=by
 obtain⟨i0,hi,hz0,hz1,hz2⟩:=info_parts zcL
 simp[Instr.makeChan,run_underlying u136,typeInfo,hi,hz2,go_sem]
theorem zcZ(hP:TameProg Tryz.prog)(s:ByteArray)(hs:s.size<=9223372036854775807)(w:World)(hv:VarsOk w):CallsB Tryz.prog 40 #[.string s] w (qy s w):=by
 refine kr Tryz.func40 (c:=tk0) rfl ?_
 have e0:tk0= .seq (seqL tk0) (.seq (seqL (seqR tk0)) (.seq (seqL tk2) (seqR tk2))):=rfl
 rw[e0]
 have ha:(#[Value.string s]++Array.replicate (Tryz.f40.ntmps- #[Value.string s].size) undef)= #[.string s,undef,undef,undef,undef,undef,undef,undef,undef,undef,undef,undef,undef,undef,undef,undef,undef,undef,undef,undef,undef,undef,undef,undef,undef,undef,undef,undef,undef,undef,undef,undef,undef,undef,undef,undef]:=by
  simp only[Tryz.ntmps40]
  simp[Array.replicate_succ]
 rw[ha]
 have hR:∀w',¬qy s w .outgrown w':=fun w' h=>h
 refine jt hP Tryz.func40 hR (wpB_lift hP fun T d=>?_)
 generalize hB:bodyPost Tryz.prog Tryz.f40 (qy s w)=B
 generalize hY:(Code.seq (seqL (seqR tk0)) (.seq (seqL tk2) (seqR tk2)))=Y
 simp only[seqL,tk0,Tryz.f40,Option.getD_some]
 go_wp2
 subst hY
 refine jt hP Tryz.func40 hR (wpB_lift hP fun T d=>?_)
 subst hB
 generalize hB:bodyPost Tryz.prog Tryz.f40 (qy s w)=B
 have HB:=Lib.hid hB
 clear hB
 generalize hY:(Code.seq (seqL tk2) (seqR tk2))=Y
 simp only[seqL,seqR,tk0,Tryz.f40,Option.getD_some]
 have HV:=Lib.hid hv
 clear hv
 by_cases hlen:8192<s.size
 ·have hq:decide ((8192:Int)<↑s.size)=true:=by simp;omega
  have HL:=Lib.hid hlen
  clear hlen
  go_wp2
  rw[<-HB.out]
  refine⟨rfl,_,res40 _ _ _ _ rfl rfl rfl _,⟨rfl,rfl,Nat.le_refl _,fun _ _=>rfl⟩,?_⟩
  unfold TokRes
  rw[if_pos HL.out]
  rfl
 ·have hq:decide ((8192:Int)<↑s.size)=false:=by simp;omega
  have HL:=Lib.hid hlen
  clear hlen
  go_wp2
  subst hY
  refine jt hP Tryz.func40 hR (wpB_lift hP fun T2 d2=>?_)
  rw[show re (re w T d) T2 d2=re w T2 d2 from rfl]
  have hgo:=tok_go hP s HL.out w HV.out
  have HGO:=Lib.hid hgo
  clear hgo
  rw[HB.out]
  generalize hX:seqR tk2=X at HGO⊢
  clear hX
  simp only[seqL,seqR,tk2,tk0,Tryz.f40,Option.getD_some]
  have hm:=zjz (re w T2 d2)
  go_wp2
  exact HGO.out
open Go.RowKit Go.Bsd
inductive POut where
 |tree (l:List Nd)
 |fault (kind at_:Int)
def zjW(te:TypeId)(pe:Value)(w:World)(o:POut)(v:Value)(w':World):Prop:=match o with
 | .tree l=>∃sl,v= .tuple #[sl, .nilIface]/\w'.ownsRow w.heap.size 50 6 sl l.length (ndCells l)
 | .fault k p=>∃q,v= .tuple #[.slice none 0 0, .iface 71 (.pointer (some ⟨q,0,none⟩))]/\w.heap.size<=q/\w'.heap[q]? =some (.cells #[.int .i64 k, .int .i64 p, .iface te pe] 73 (0,0))
def xY(te:TypeId)(pe:Value)(w:World)(o:POut):Ending->World->Prop
 | .returned v,w'=>Kin w w'/\zjW te pe w o v w'
 |_,_=>False
noncomputable def pk0:Code:=(Tryz.f14.body.getD .skip)
noncomputable def pk2:Code:=seqR (seqR pk0)
theorem res14(a:Array Value)(n0:Nat)(W:World)(b:Option Addr)(n cap:Nat)(y:Value)(h2:a.getD 2 undef= .pointer (some ⟨n0,0,none⟩))(h3:a.getD 3 undef= .pointer (some ⟨n0+1,0,none⟩))(c2:W.cell? ⟨n0,0,none⟩=some (.slice b n cap))(c3:W.cell? ⟨n0+1,0,none⟩=some y)(hy:y= .nilIface\/∃t v,y= .iface t v):
 (results Tryz.f14 a).run Tryz.prog W= .ok (.tuple #[.slice b n cap,y]) W:=by
 rw[Array.getD_eq_getD_getElem?] at h2 h3
 rcases hy with rfl|⟨t,v,rfl⟩
 ·simp only[results,Tryz.f14]
  simp[go_sem,h2,h3,c2,c3]
 ·simp only[results,Tryz.f14]
  simp[go_sem,h2,h3,c2,c3]
theorem parse_bad(s:ByteArray)(te:TypeId)(pe:Value)(w w1:World)(n0:Nat)(sl:Value)(kd pl:Int)(hkd:kd≠0)(hn:n0=w.heap.size)(hk:Kin w w1)(c2:w1.cell? ⟨n0,0,none⟩=some (.slice none 0 0))(c3:w1.cell? ⟨n0+1,0,none⟩=some .nilIface)(f2:w1.frozen? ⟨n0,0,none⟩=false)(f3:w1.frozen? ⟨n0+1,0,none⟩=false)(hl:n0+1<w1.heap.size)(ce:w1.cell? ⟨0,0,none⟩=some (.iface te pe)):
 pk2.wp Tryz.prog (bodyPostD Tryz.prog Tryz.f14 (xY te pe w (.fault kd pl))) {tmps:= #[.string s,undef, .pointer (some ⟨n0,0,none⟩), .pointer (some ⟨n0+1,0,none⟩),sl, .int .i64 kd, .int .i64 pl,undef,undef,undef,undef,undef, .tuple #[sl, .int .i64 kd, .int .i64 pl], .string s, .tuple #[sl, .int .i64 kd, .int .i64 pl],sl, .int .i64 kd, .int .i64 pl,undef,undef,undef,undef,undef,undef,undef,undef,undef,undef,undef,undef,undef,undef,undef,undef,undef,undef,undef,undef,undef,undef,undef,undef,undef,undef,undef,undef,undef,undef,undef,undef,undef,undef,undef,undef,undef,undef,undef,undef,undef,undef,undef,undef,undef,undef,undef],defers:=[]} w1:=by
 have HK:=Lib.hid hk
 have HN:=Lib.hid hn
 clear hk hn
 have k1:(kd==0)=false:=by simp[hkd]
 have k2:(kd !=0)=true:=by simp[hkd]
 clear hkd
 have hl0:n0<w1.heap.size:=by omega
 have hne0:¬n0=w1.heap.size:=by omega
 have hne1:¬n0+1=w1.heap.size:=by omega
 generalize hQ:bodyPostD Tryz.prog Tryz.f14 (xY te pe w (.fault kd pl))=Q
 have HQ:=Lib.hid hQ
 clear hQ
 simp only[pk2,pk0,seqR,Tryz.f14,Option.getD_some]
 go_wp2_with (go_at_call 41;refine(refused_any kd pl te pe _ ce).mono ?_;rintro e w' ⟨rfl,rfl⟩)
 rw[<-HQ.out]
 have p2:((w1.setCell ⟨n0,0,none⟩ (.slice none 0 0)).setCell ⟨n0+1,0,none⟩ (.iface 71 (.pointer (some ⟨w1.heap.size,0,none⟩)))).cell? ⟨n0,0,none⟩=some (.slice none 0 0):=by simp[go_sem,c2]
 have p3:((w1.setCell ⟨n0,0,none⟩ (.slice none 0 0)).setCell ⟨n0+1,0,none⟩ (.iface 71 (.pointer (some ⟨w1.heap.size,0,none⟩)))).cell? ⟨n0+1,0,none⟩=some (.iface 71 (.pointer (some ⟨w1.heap.size,0,none⟩))):=by simp[go_sem,c3]
 have q2:(((w1.setCell ⟨n0,0,none⟩ (.slice none 0 0)).setCell ⟨n0+1,0,none⟩ (.iface 71 (.pointer (some ⟨w1.heap.size,0,none⟩)))).alloc (Obj.cells #[Value.int IntKind.i64 kd,Value.int IntKind.i64 pl,Value.iface te pe] 73)).cell? ⟨n0,0,none⟩=some (.slice none 0 0):=(World.grownBy_alloc _ _ none).cell p2 (by simp)
 have q3:(((w1.setCell ⟨n0,0,none⟩ (.slice none 0 0)).setCell ⟨n0+1,0,none⟩ (.iface 71 (.pointer (some ⟨w1.heap.size,0,none⟩)))).alloc (Obj.cells #[Value.int IntKind.i64 kd,Value.int IntKind.i64 pl,Value.iface te pe] 73)).cell? ⟨n0+1,0,none⟩=some (.iface 71 (.pointer (some ⟨w1.heap.size,0,none⟩))):=(World.grownBy_alloc _ _ none).cell p3 (by simp)
 refine⟨_,res14 _ n0 _ none 0 0 _ rfl rfl q2 q3 (.inr ⟨_,_,rfl⟩),?_,w1.heap.size,rfl,HK.out.size,?_⟩
 ·have hk:=HK.out
  have hn:=HN.out
  have g1:=zq w1 n0 0 (.slice none 0 0)
  have g2:=zq (w1.setCell ⟨n0,0,none⟩ (.slice none 0 0)) (n0+1) 0 (.iface 71 (.pointer (some ⟨w1.heap.size,0,none⟩)))
  have g3:=World.grownBy_alloc ((w1.setCell ⟨n0,0,none⟩ (.slice none 0 0)).setCell ⟨n0+1,0,none⟩ (.iface 71 (.pointer (some ⟨w1.heap.size,0,none⟩)))) (Obj.cells #[Value.int IntKind.i64 kd,Value.int IntKind.i64 pl,Value.iface te pe] 73) none
  have s0:=hk.size
  have s1:=g1.size
  have s2:=g2.size
  exact⟨hk.os,hk.out,Nat.le_trans s0 (Nat.le_trans s1 (Nat.le_trans s2 g3.size)),fun k hkk=>(g3.block k (by omega) (by simp)).trans ((g2.block k (by omega) (by simp;omega)).trans ((g1.block k (by omega) (by simp;omega)).trans (hk.block k hkk)))⟩
 ·have:=heap_alloc_new ((w1.setCell ⟨n0,0,none⟩ (.slice none 0 0)).setCell ⟨n0+1,0,none⟩ (.iface 71 (.pointer (some ⟨w1.heap.size,0,none⟩)))) (Obj.cells #[Value.int IntKind.i64 kd,Value.int IntKind.i64 pl,Value.iface te pe] 73)
  simpa using this
theorem zba{L:List Item}{j:Nat}{t:Item}(h:L[j]? =some t)(k:Nat)(hk:k<4):(flatToks L)[j*4+k]? =(tokCells t)[k]? :=by
 induction L generalizing j with
 |nil=>simp at h
 |cons x l ih=>
  have e:flatToks (x::l)=tokCells x++flatToks l:=by simp[flatToks]
  have hl:(tokCells x).length=4:=rfl
  rw[e]
  cases j with
  |zero=>
   simp at h
   subst h
   rw[List.getElem?_append_left (by rw[hl];omega)]
   congr 1
   omega
  |succ j=>
   simp at h
   rw[List.getElem?_append_right (by rw[hl];omega),hl,show(j+1)*4+k-4=j*4+k from by omega]
   exact ih h
def zi4:Value->Nat
 | .slice (some a) _ _=>a.block
 |_=>0
def ctxOf(s:ByteArray)(te:TypeId)(pe:Value)(r:Nat)(sl:Value):Ctx:=⟨zd (pieces s),s.size,te,pe,r,zi4 sl⟩
theorem zgL(s:ByteArray)(te:TypeId)(pe:Value)(sl:Value)(B:Nat)(w1:World)(hown:w1.ownsRow B 140 4 sl (zd (pieces s)).length (flatToks (zd (pieces s))))(hL:(zd (pieces s)).length<=8193)(he:w1.cell? ⟨0,0,none⟩=some (.iface te pe)):
 Rd (ctxOf s te pe w1.heap.size sl) 0 (w1.alloc (.cells #[sl, .int .i64 0, .int .i64 s.size] 86)):=by
 have h0:0<w1.heap.size:=World.block_lt_of_cell? w1 ⟨0,0,none⟩ he
 have c0:(w1.alloc (.cells #[sl, .int .i64 0, .int .i64 s.size] 86)).cell? ⟨w1.heap.size,0,none⟩=some sl:=by simp[go_sem]
 have hkeep:∀{n o:Nat} {v:Value},w1.cell? ⟨n,o,none⟩=some v->(w1.alloc (.cells #[sl, .int .i64 0, .int .i64 s.size] 86)).cell? ⟨n,o,none⟩=some v:=fun h=>(World.grownBy_alloc w1 _ none).cell h (by simp)
 rcases hown.2 with⟨rfl,hn⟩|⟨g,cap,cur,rfl,hb,hg,hn,hm,hsz,htake⟩
 ·have hnil:zd (pieces s)=[]:=List.eq_nil_of_length_eq_zero hn
  refine⟨⟨none,0,0,by refine c0.trans ?_;simp[ctxOf,hnil],fun h=>absurd hnil h,by simp[ctxOf,hnil],⟨?_,?_,?_,?_⟩,fun h=>absurd hnil h⟩,by simp[go_sem,ctxOf],by simp[go_sem,ctxOf],by simp[go_sem,ctxOf],Nat.zero_le _,hL,hkeep he,h0,fun b n cap hb hne=>absurd hnil hne⟩<;>
   (intro j t hj;simp[ctxOf,hnil] at hj)
 ·have cells:∀(j:Nat) (t:Item),(zd (pieces s))[j]? =some t->∀k v,k<4->(tokCells t)[k]? =some v->(w1.alloc (.cells #[.slice (some ⟨g,0,none⟩) (zd (pieces s)).length cap, .int .i64 0, .int .i64 s.size] 86)).cell? ⟨g,j*4+k,none⟩=some v:=by
   intro j t hj k v hk hv
   refine hkeep ?_
   have:=hown.cells rfl (j*4+k) v ((zba hj k hk).trans hv)
   rw[show((⟨g,0,none⟩:Addr).add (j*4+k))=⟨g,j*4+k,none⟩ from by unfold Addr.add;split<;>simp_all] at this
   exact this
  have hgl:g<w1.heap.size:=(Array.getElem?_eq_some_iff.1 hg).1
  refine⟨⟨_,cap,g,c0,fun _=>rfl,hn,⟨fun j t hj=>cells j t hj 0 _ (by omega) rfl,fun j t hj=>cells j t hj 1 _ (by omega) rfl,fun j t hj=>cells j t hj 2 _ (by omega) rfl,fun j t hj=>cells j t hj 3 _ (by omega) rfl⟩,fun _=>by show g≠w1.heap.size;omega⟩,by simp[go_sem,ctxOf],by simp[go_sem,ctxOf],by simp[go_sem,ctxOf],Nat.zero_le _,hL,hkeep he,h0,fun b n cp hb hne=>?_⟩
  have hb:(w1.alloc (.cells #[.slice (some ⟨g,0,none⟩) (zd (pieces s)).length cap, .int .i64 0, .int .i64 s.size] 86)).cell? ⟨w1.heap.size,0,none⟩=some (.slice b n cp):=hb
  rw[c0] at hb
  simp only[Option.some.injEq,Value.slice.injEq] at hb
  rw[<-hb.1]
  rfl
def xz(l:List Nd):POut:=
 if 300<l.length then .fault 32 ((l[300]?.map (·.at_)).getD 0)
 else match l.find? (fun n=>decide (24<n.depth)) with
  |some n=> .fault 31 n.at_
  |none=> .tree l
def qj:Res (List Tr)->POut
 | .no p=> .fault 30 p
 | .ok ts _=>xz (flatTs ts 1)
theorem kE(te:TypeId)(pe:Value)(w W:World)(tmps:Array Value)(n0 q:Nat)(k p:Int)(b:Option Addr)(n m:Nat)(t2:tmps.getD 2 undef= .pointer (some ⟨n0,0,none⟩))(t3:tmps.getD 3 undef= .pointer (some ⟨n0+1,0,none⟩))(hn:n0=w.heap.size)(hk:Kin w W)
 (c2:W.cell? ⟨n0,0,none⟩=some (.slice b n m)) (c3:W.cell? ⟨n0+1,0,none⟩=some .nilIface) (f2:W.frozen? ⟨n0,0,none⟩=false) (f3:W.frozen? ⟨n0+1,0,none⟩=false) (hl:n0+1<W.heap.size) (hq:n0+1<q) (hf:W.heap[q]? =some (.cells #[.int .i64 k, .int .i64 p, .iface te pe] 73 (0,0))):
 Leaves Tryz.prog Tryz.f14 tmps (xY te pe w (.fault k p)) [{target:=Target.fn (Fn.func 42) #[Value.pointer (some {block:=n0,off:=0}),Value.pointer (some {block:=n0+1,off:=0})],args:= #[]}] (.panicking [{v:= .iface 71 (.pointer (some ⟨q,0,none⟩)),recovered:=false}]) W:=by
 have hinv:(invoke (.fn (.func 42) #[.pointer (some ⟨n0,0,none⟩), .pointer (some ⟨n0+1,0,none⟩)]) #[]).run Tryz.prog W= .ok (.enter 42 #[.pointer (some ⟨n0,0,none⟩), .pointer (some ⟨n0+1,0,none⟩)]) W:=by
  have:=yY Tryz.func42 (by kernel_rfl) (by kernel_rfl) #[.pointer (some ⟨n0,0,none⟩), .pointer (some ⟨n0+1,0,none⟩)] W
  simpa [invoke] using this
 refine⟨by simp,_,_,42,_,rfl,hinv,?_⟩
 have hc:=pcatch_panicking n0 q b n m W c2 c3 f2 f3 hl
 have p2:((W.setCell ⟨n0,0,none⟩ (.slice none 0 0)).setCell ⟨n0+1,0,none⟩ (.iface 71 (.pointer (some ⟨q,0,none⟩)))).cell? ⟨n0,0,none⟩=some (.slice none 0 0):=by simp[go_sem,c2]
 have p3:((W.setCell ⟨n0,0,none⟩ (.slice none 0 0)).setCell ⟨n0+1,0,none⟩ (.iface 71 (.pointer (some ⟨q,0,none⟩)))).cell? ⟨n0+1,0,none⟩=some (.iface 71 (.pointer (some ⟨q,0,none⟩))):=by simp[go_sem,c3]
 have g1:=zq W n0 0 (.slice none 0 0)
 have g2:=zq (W.setCell ⟨n0,0,none⟩ (.slice none 0 0)) (n0+1) 0 (.iface 71 (.pointer (some ⟨q,0,none⟩)))
 have s0:=hk.size
 have s1:=g1.size
 have s2:=g2.size
 have hql:q<W.heap.size:=(Array.getElem?_eq_some_iff.1 hf).1
 refine hc.mono ?_
 rintro e u' w' ⟨rfl,rfl,rfl⟩
 refine⟨_,res14 _ n0 _ none 0 0 _ t2 t3 p2 p3 (.inr ⟨_,_,rfl⟩),⟨hk.os,hk.out,by omega,fun x hx=>?_⟩,q,rfl,by omega,?_⟩
 ·exact(g2.block x (by omega) (by simp;omega)).trans ((g1.block x (by omega) (by simp;omega)).trans (hk.block x hx))
 ·exact(g2.block q (by omega) (by simp;omega)).trans ((g1.block q (by omega) (by simp;omega)).trans hf)
theorem zdK(te:TypeId)(pe:Value)(w W:World)(tmps:Array Value)(n0:Nat)(l:List Nd)(b:Option Addr)(c:Nat)(t2:tmps.getD 2 undef= .pointer (some ⟨n0,0,none⟩))(t3:tmps.getD 3 undef= .pointer (some ⟨n0+1,0,none⟩))(hk:Kin w W)
 (c2:W.cell? ⟨n0,0,none⟩=some (.slice b l.length c)) (c3:W.cell? ⟨n0+1,0,none⟩=some .nilIface) (ho:W.ownsRow w.heap.size 50 6 (.slice b l.length c) l.length (ndCells l)):
 Leaves Tryz.prog Tryz.f14 tmps (xY te pe w (.tree l)) [{target:=Target.fn (Fn.func 42) #[Value.pointer (some {block:=n0,off:=0}),Value.pointer (some {block:=n0+1,off:=0})],args:= #[]}] .returning W:=by
 have hinv:(invoke (.fn (.func 42) #[.pointer (some ⟨n0,0,none⟩), .pointer (some ⟨n0+1,0,none⟩)]) #[]).run Tryz.prog W= .ok (.enter 42 #[.pointer (some ⟨n0,0,none⟩), .pointer (some ⟨n0+1,0,none⟩)]) W:=by
  have:=yY Tryz.func42 (by kernel_rfl) (by kernel_rfl) #[.pointer (some ⟨n0,0,none⟩), .pointer (some ⟨n0+1,0,none⟩)] W
  simpa [invoke] using this
 refine⟨by simp,_,_,42,_,rfl,hinv,?_⟩
 refine(zbY ⟨n0,0,none⟩ ⟨n0+1,0,none⟩ W).mono ?_
 rintro e u' w' ⟨rfl,rfl,rfl⟩
 exact⟨_,res14 _ n0 _ b _ c _ t2 t3 c2 c3 (.inl rfl),hk,_,rfl,ho⟩
theorem nd_get{L:List Nd}{j:Nat}{t:Nd}(h:L[j]? =some t)(k:Nat)(hk:k<6):(ndCells L)[j*6+k]? =t.cells[k]? :=by
 induction L generalizing j with
 |nil=>simp at h
 |cons x l ih=>
  have e:ndCells (x::l)=x.cells++ndCells l:=by simp[ndCells]
  have hl:x.cells.length=6:=rfl
  rw[e]
  cases j with
  |zero=>
   simp at h
   subst h
   rw[List.getElem?_append_left (by rw[hl];omega)]
   congr 1
   omega
  |succ j=>
   simp at h
   rw[List.getElem?_append_right (by rw[hl];omega),hl,show(j+1)*6+k-6=j*6+k from by omega]
   exact ih h
structure FlI (n0:Nat) (w3 wr:World) (b:Option Addr) (c:Nat) (l:List Nd):Prop where
 cell:wr.cell? ⟨n0,0,none⟩=some (.slice b l.length c)
 froz:wr.frozen? ⟨n0,0,none⟩=false
 own:wr.ownsRow w3.heap.size 50 6 (.slice b l.length c) l.length (ndCells l)
 os:wr.os=w3.os
 out:wr.output=w3.output
 size:w3.heap.size<=wr.heap.size
 keep:∀k,k<w3.heap.size->k≠n0->wr.heap[k]? =w3.heap[k]?
theorem xe{w:World}{B:Nat}{e:TypeId}{z n:Nat}{v:Value}{xs:List Value}(h:w.ownsRow B e z v n xs):∃b c,v= .slice b n c:=by
 rcases h.2 with⟨h1,h2⟩|⟨g,cap,cur,h1,_⟩
 ·exact⟨none,0,by rw[h1,h2]⟩
 ·exact⟨_,cap,h1⟩
theorem FlI.step{n0:Nat}{w3 wr w':World}{b b':Option Addr}{c c':Nat}{l l':List Nd}(h:FlI n0 w3 wr b c l)(hn:n0<w3.heap.size)(hb:Below w3.heap.size wr w')(ho:w'.ownsRow w3.heap.size 50 6 (.slice b' l'.length c') l'.length (ndCells l')):FlI n0 w3 (w'.setCell ⟨n0,0,none⟩ (.slice b' l'.length c')) b' c' l':=by
 have g:=zq w' n0 0 (.slice b' l'.length c')
 have c1:w'.cell? ⟨n0,0,none⟩=some (.slice b l.length c):=(hb.cell (p:=⟨n0,0,none⟩) hn).trans h.cell
 have c2:w'.frozen? ⟨n0,0,none⟩=false:=(hb.frozen (p:=⟨n0,0,none⟩) hn).trans h.froz
 refine⟨by simp[go_sem,c1],by simp[go_sem,c2],ho.kept g ?_,(g.os.trans hb.os).trans h.os,(g.output.trans hb.output).trans h.out,Nat.le_trans (Nat.le_trans h.size hb.size) g.size,fun k hk hkn=>?_⟩
 ·cases hv:(Value.slice b' l'.length c').ownBlock with
  |none=>exact .inl rfl
  |some k=>right;have:=ho.lt k hv;simp;omega
 ·exact(g.block k (by have:=h.size;have:=hb.size;omega) (by simp;omega)).trans ((hb.block k hk).trans (h.keep k hk hkn))
theorem zdu(s:ByteArray)(hs:s.size<=8192)(te:TypeId)(pe:Value)(w w1:World)(n0 f:Nat)(sl:Value)(pl:Int)(r:Res (List Tr))(hr:rd (ctxOf s te pe w1.heap.size sl) f .prog 0=some r)(hn:n0=w.heap.size)(hk:Kin w w1)(c2:w1.cell? ⟨n0,0,none⟩=some (.slice none 0 0))(c3:w1.cell? ⟨n0+1,0,none⟩=some .nilIface)(f2:w1.frozen? ⟨n0,0,none⟩=false)(f3:w1.frozen? ⟨n0+1,0,none⟩=false)(hl:n0+1<w1.heap.size)(ce:w1.cell? ⟨0,0,none⟩=some (.iface te pe))
 (B:Nat) (hown:w1.ownsRow B 140 4 sl (zd (pieces s)).length (flatToks (zd (pieces s)))) (hL:(zd (pieces s)).length<=8193):
 pk2.wp Tryz.prog (bodyPostD Tryz.prog Tryz.f14 (xY te pe w (qj r))) {tmps:= #[.string s,undef, .pointer (some ⟨n0,0,none⟩), .pointer (some ⟨n0+1,0,none⟩),sl, .int .i64 0, .int .i64 pl,undef,undef,undef,undef,undef, .tuple #[sl, .int .i64 0, .int .i64 pl], .string s, .tuple #[sl, .int .i64 0, .int .i64 pl],sl, .int .i64 0, .int .i64 pl,undef,undef,undef,undef,undef,undef,undef,undef,undef,undef,undef,undef,undef,undef,undef,undef,undef,undef,undef,undef,undef,undef,undef,undef,undef,undef,undef,undef,undef,undef,undef,undef,undef,undef,undef,undef,undef,undef,undef,undef,undef,undef,undef,undef,undef,undef,undef],defers:=[]} w1:=by
 have hRd:=zgL s te pe sl B w1 hown hL ce
 have HK:=Lib.hid hk
 have HN:=Lib.hid hn
 have hsl:∃b cap,sl= .slice b (zd (pieces s)).length cap:=by
  rcases hown.2 with⟨h,hn⟩|⟨g,cap,cur,h,_⟩
  ·exact⟨none,0,by rw[h,hn]⟩
  ·exact⟨_,cap,h⟩
 obtain⟨sb,sc,rfl⟩:=hsl
 have hprog:=zgP _ f 0 _ r hr hRd
 have hr0:=Lib.hid hr
 clear hk hn hr hown
 generalize hQ:bodyPostD Tryz.prog Tryz.f14 (xY te pe w (qj r))=Q
 have HQ:=Lib.hid hQ
 clear hQ
 simp only[pk2,pk0,seqR,Tryz.f14,Option.getD_some]
 cases r with
 |no p=>
  have hprog:=zE hprog
  go_wp2_with (go_at_call 43;refine(hprog).mono ?_;rintro e w' ⟨ch,rfl,hF⟩)
  rw[<-HQ.out]
  have hgA:=World.grownBy_alloc w1 (Obj.cells #[Value.slice sb (zd (pieces s)).length sc,Value.int IntKind.i64 0,Value.int IntKind.i64 ↑s.size] 86) (some w1.heap.size)
  obtain⟨q,rfl,hq1,hq2,hgB⟩:=hF
  have hG:w1.grownBy w' (some w1.heap.size):=grown_trans hgA hgB
  have hk:=HK.out
  have hn:=HN.out
  have s0:=hk.size
  have s1:=hG.size
  have hqs:w1.heap.size+1<=q:=by simpa using hq1
  exact kE te pe w w' _ n0 q 30 p none 0 0 rfl rfl hn ⟨hG.os.trans hk.os,hG.output.trans hk.out,by omega,fun x hx=>(hG.block x (by omega) (by simp;omega)).trans (hk.block x hx)⟩
   (hG.cell c2 (by simp;omega)) (hG.cell c3 (by simp;omega)) ((World.frozen?_of_block (a:=⟨n0,0,none⟩) (hG.block n0 (by omega) (by simp;omega))).trans f2) ((World.frozen?_of_block (a:=⟨n0+1,0,none⟩) (hG.block (n0+1) hl (by simp;omega))).trans f3) (by omega) (by omega) hq2
 |ok ts j=>
  have hnod:=rd_nodes _ _ _ _ _ _ hr0.out
  have hprog:=vj hprog
  go_wp2_with (go_at_call 43;refine(hprog).mono ?_;rintro e w3 ⟨v3,rfl,hK3,hR3,hG3⟩;obtain⟨kb,kc,rfl,hKK⟩:=hK3.kids hRd.lt)
  have hjl:=hR3.le
  have hcnt:(flatTs ts 1).length<=8193:=by
   have e:=yJ 1 0 ts
   have h2:0+yl ts<=j+0:=hnod
   have h3:j<=(zd (pieces s)).length:=hjl
   unfold yl at h2
   omega
  have hgA:=World.grownBy_alloc w1 (Obj.cells #[Value.slice sb (zd (pieces s)).length sc,Value.int IntKind.i64 0,Value.int IntKind.i64 ↑s.size] 86) (some w1.heap.size)
  have hG:w1.grownBy w3 (some w1.heap.size):=grown_trans hgA hG3
  have hsA:w1.heap.size+1<=w3.heap.size:=by have:=hG3.size;simpa using this
  have d2:w3.cell? ⟨n0,0,none⟩=some (.slice none 0 0):=hG.cell c2 (by simp;omega)
  have e2:w3.frozen? ⟨n0,0,none⟩=false:=(World.frozen?_of_block (a:=⟨n0,0,none⟩) (hG.block n0 (by omega) (by simp;omega))).trans f2
  obtain⟨g,q,hb1,hb2,hb3,hb4,hb5⟩:=hKK
  have HG:=Lib.hid hG
  have HB1:=Lib.hid hb1
  have HB2:=Lib.hid hb2
  have HB4:=Lib.hid hb4
  have HB5:=Lib.hid hb5
  have hn3:n0<w3.heap.size:=by omega
  have HZ:Hid (∀(x:World) {b:Option Addr} {c:Nat} {l:List Nd},FlI n0 w3 x b c l->x.cell? ⟨0,0,none⟩=some (.iface te pe)):=by
   intro x b c l hx
   have hz0:=World.block_lt_of_cell? w1 ⟨0,0,none⟩ ce
   have h0:(0:Nat)≠n0:=by rintro rfl;rw[c2] at ce;cases ce
   exact(World.cell?_of_block (a:=⟨0,0,none⟩) (hx.keep 0 (by omega) h0)).trans (hG.cell ce (by simp;omega))
  have HW:Hid (∀(x:World) {b:Option Addr} {c:Nat} {l:List Nd},FlI n0 w3 x b c l->Kin w x/\x.cell? ⟨n0+1,0,none⟩=some .nilIface/\x.frozen? ⟨n0+1,0,none⟩=false/\n0+1<x.heap.size):=by
   intro x b c l hx
   have hk:=HK.out
   have hn:=HN.out
   have s0:=hk.size
   have s1:=hG.size
   have s2:=hx.size
   refine⟨⟨(hx.os.trans hG.os).trans hk.os,(hx.out.trans hG.output).trans hk.out,by omega,fun y hy=>(hx.keep y (by omega) (by omega)).trans ((hG.block y (by omega) (by simp;omega)).trans (hk.block y hy))⟩,?_,?_,by omega⟩
   ·exact(World.cell?_of_block (a:=⟨n0+1,0,none⟩) (hx.keep (n0+1) (by omega) (by omega))).trans (hG.cell c3 (by simp;omega))
   ·exact(World.frozen?_of_block (a:=⟨n0+1,0,none⟩) (hx.keep (n0+1) (by omega) (by omega))).trans ((World.frozen?_of_block (a:=⟨n0+1,0,none⟩) (hG.block (n0+1) hl (by simp;omega))).trans f3)
  clear hK3 hG3 hgA hG hb1 hb2 hb4 hb5 hprog hRd hR3 hnod hr0
  go_loopg [33] ts.length (fun gg x wr=>∃(k:Nat) (b:Option Addr) (c:Nat),x= .int .i64 k/\k<=ts.length/\gg=ts.length-k/\FlI n0 w3 wr b c (flatTs (ts.take k) 1))
  case atStart=>exact⟨0,none,0,rfl,Nat.zero_le _,rfl,d2,e2,World.ownsRow_nil _ _ _ _,rfl,rfl,Nat.le_refl _,fun _ _ _=>rfl⟩
  case round=>
   obtain⟨k,b,c,rfl,hk,hgg,hI⟩:=hrel
   have HI:=Lib.hid hI
   have HGG:=Lib.hid hgg
   have x1:=hI.cell
   have x2:=hI.froz
   clear hI hgg d2 e2 c2 c3 f2 f3 ce
   by_cases hlt:k<ts.length
   ·have hkb:k<100000:=by have:=vS 1 ts;omega
    obtain⟨u,hu⟩:∃u,ts[k]? =some u:=⟨_,List.getElem?_eq_getElem hlt⟩
    have hne:ts≠[]:=by rintro rfl;simp at hlt
    have hbe:=HB1.out hne
    subst hbe
    have hTu:=HB5.out k u hu
    have hOld:∀y,¬Old (ctxOf s te pe w1.heap.size (Value.slice sb (zd (pieces s)).length sc)) (w1.alloc (Obj.cells #[Value.slice sb (zd (pieces s)).length sc,Value.int IntKind.i64 0,Value.int IntKind.i64 ↑s.size] 86)) y->w1.heap.size+1<=y:=by
     intro y hy
     unfold Old at hy
     simp at hy
     omega
    have hgn:g≠n0:=by have:=hOld g (HB2.out hne);omega
    have hgl:=World.block_lt_of_cell? w3 ⟨g,k,none⟩ (HB4.out k u hu)
    have hcell:wr.cell? ⟨g,k,none⟩=some (.pointer (some ⟨q k,0,none⟩)):=(World.cell?_of_block (a:=⟨g,k,none⟩) (HI.out.keep g hgl hgn)).trans (HB4.out k u hu)
    have hcnt2:(flatTs (ts.take k) 1).length+(flatT u 1).length<=(flatTs ts 1).length:=by
     have e:ts=ts.take k++u::ts.drop (k+1):=by
      rw[List.getElem?_eq_getElem hlt] at hu
      rw[<-Option.some.inj hu,List.getElem_cons_drop,List.take_append_drop]
     have e2:=congrArg (fun x=>(flatTs x 1).length) e
     simp only[zY,flatTs,List.length_append] at e2
     omega
    have l3:=qW 0 1 u
    have hTA:TrAt (fun y=>w3.heap.size<=y\/y<w1.heap.size+1) w3 (q k) u:=hTu.bound.mono fun y hy=>by
     rcases hy with hy|hy
     ·exact .inr hy
     ·refine .inl ?_
      unfold Old
      simp
      omega
    have hcall:=zhp (w1.heap.size+1) w3.heap.size w3 (Nat.le_refl _) (q k) u hTA wr _ _ 1 (fun y h1 h2=>HI.out.keep y h2 (by omega)) HI.out.size HI.out.own (by omega) (by omega) (by omega)
    have HU:=Lib.hid hu
    clear hu hcnt2 l3 hTA hTu hOld
    go_wp2_with (go_at_call 44;refine(hcall).mono ?_;rintro e w' ⟨v',rfl,hb',ho'⟩;obtain⟨b2,cc2,rfl⟩:=xe ho';have y1:=(hb'.cell (p:=⟨n0,0,none⟩) hn3).trans x1;have y2:=(hb'.frozen (p:=⟨n0,0,none⟩) hn3).trans x2)
    have hst:=HI.out.step hn3 hb' ho'
    go_roundg (ts.length-(k+1))
    case measure=>have:=HGG.out;omega
    case rel=>
     have e:ts.take (k+1)=ts.take k++[u]:=by rw[List.take_add_one,HU.out];rfl
     have e3:flatTs (ts.take (k+1)) 1=flatTs (ts.take k) 1++flatT u 1:=by rw[e,zY];simp[flatTs]
     refine⟨k+1,b2,cc2,by go_num,by omega,rfl,?_⟩
     rw[e3]
     rw[List.length_append] at hst
     exact hst
   ·have hkk:k=ts.length:=by omega
    subst hkk
    have hI:=HI.out
    rw[List.take_length] at hI x1
    generalize hll:flatTs ts 1=l at hI x1 hcnt
    have HLL:=Lib.hid hll
    have HI2:=Lib.hid hI
    clear hll hI HI
    by_cases hm:300<l.length
    ·have hdm:decide ((300:Int)<(l.length:Int))=true:=by simp;omega
     obtain⟨u,hu⟩:∃u,l[300]? =some u:=⟨_,List.getElem?_eq_getElem hm⟩
     have hz:wr.cell? ⟨0,0,none⟩=some (.iface te pe):=HZ.out wr HI2.out
     obtain⟨gb,rfl⟩:∃gb,b=some ⟨gb,0,none⟩:=by
      rcases HI2.out.own.2 with⟨h1,h2⟩|⟨g',cap,cur,h1,_⟩
      ·omega
      ·exact⟨g',by simp at h1;exact h1.1⟩
     have hc5:wr.cell? ⟨gb,1805,none⟩=some (.int .i64 u.at_):=by
      have:=HI2.out.own.cells rfl 1805 (.int .i64 u.at_) ((nd_get hu 5 (by omega)).trans rfl)
      rw[show((⟨gb,0,none⟩:Addr).add 1805)=⟨gb,1805,none⟩ from by unfold Addr.add;split<;>simp_all] at this
      exact this
     go_wp2_with (go_at_call 41;refine(refused_any 32 u.at_ te pe _ hz).mono ?_;rintro e w' ⟨rfl,rfl⟩)
     rw[<-HQ.out]
     obtain⟨kw,z3,zf3,zl⟩:=HW.out wr HI2.out
     have g4:=World.grownBy_alloc wr (Obj.cells #[Value.int IntKind.i64 32,Value.int IntKind.i64 u.at_,Value.iface te pe] 73) none
     have e:qj (Res.ok ts j)= .fault 32 u.at_:=by
      show xz (flatTs ts 1)=_
      rw[HLL.out]
      unfold xz
      rw[if_pos hm,hu]
      rfl
     rw[e]
     have s4:=g4.size
     exact kE te pe w _ _ n0 wr.heap.size 32 u.at_ _ _ _ rfl rfl HN.out ⟨kw.os,kw.out,Nat.le_trans kw.size s4,fun x hx=>(g4.block x (by have:=kw.size;omega) (by simp)).trans (kw.block x hx)⟩
      (g4.cell x1 (by simp)) (g4.cell z3 (by simp)) ((World.frozen?_of_block (a:=⟨n0,0,none⟩) (g4.block n0 (by omega) (by simp))).trans x2) ((World.frozen?_of_block (a:=⟨n0+1,0,none⟩) (g4.block (n0+1) zl (by simp))).trans zf3) (by omega) (by omega) (heap_alloc_new wr _)
    ·have hdm:decide ((300:Int)<(l.length:Int))=false:=by simp;omega
     go_wp2
     obtain⟨kw,z3,zf3,zl⟩:=HW.out wr HI2.out
     have hz:wr.cell? ⟨0,0,none⟩=some (.iface te pe):=HZ.out wr HI2.out
     have hz0:=World.block_lt_of_cell? wr ⟨0,0,none⟩ hz
     have HKW:=Lib.hid kw
     clear kw
     obtain⟨wo,rfl⟩:∃wo:World,wo=wr:=⟨_,rfl⟩
     go_loopg [52] l.length (fun gg x wq=>∃k:Nat,x= .int .i64 k/\k<=l.length/\gg=l.length-k/\Below wo.heap.size wo wq/\∀(i:Nat) (n:Nd),i<k->l[i]? =some n->¬24<n.depth)
     case atStart=>exact⟨0,rfl,Nat.zero_le _,rfl,Below.refl _ _,fun i n hi=>by omega⟩
     case round=>
      obtain⟨k,rfl,hk2,hgg,hbq,hsmall⟩:=hrel
      have HBQ:=Lib.hid hbq
      have HSM:=Lib.hid hsmall
      have HGG2:=Lib.hid hgg
      clear hbq hsmall hgg
      by_cases hlk:k<l.length
      ·obtain⟨u,hu⟩:∃u,l[k]? =some u:=⟨_,List.getElem?_eq_getElem hlk⟩
       obtain⟨gb,rfl⟩:∃gb,b=some ⟨gb,0,none⟩:=by
        rcases HI2.out.own.2 with⟨h1,h2⟩|⟨g',cap,cur,h1,_⟩
        ·omega
        ·exact⟨g',by simp at h1;exact h1.1⟩
       have hgl:=(HI2.out.own.lt gb rfl).2
       have cells:∀o v,o<6->u.cells[o]? =some v->wr.cell? ⟨gb,k*6+o,none⟩=some v:=by
        intro o v ho hv
        have:=HI2.out.own.cells rfl (k*6+o) v ((nd_get hu o ho).trans hv)
        rw[show((⟨gb,0,none⟩:Addr).add (k*6+o))=⟨gb,k*6+o,none⟩ from by unfold Addr.add;split<;>simp_all] at this
        exact(HBQ.out.cell (p:=⟨gb,k*6+o,none⟩) hgl).trans this
       have r0:=cells 0 _ (by omega) rfl
       have r1:=cells 1 _ (by omega) rfl
       have r2:=cells 2 _ (by omega) rfl
       have r3:=cells 3 _ (by omega) rfl
       have r4:=cells 4 _ (by omega) rfl
       have r5:=cells 5 _ (by omega) rfl
       simp only[Nat.add_zero] at r0
       have hzq:wr.cell? ⟨0,0,none⟩=some (.iface te pe):=(HBQ.out.cell (p:=⟨0,0,none⟩) hz0).trans hz
       have HU:=Lib.hid hu
       have sq:=HBQ.out.size
       clear cells hu
       by_cases hd:(24:Int)<u.depth
       ·have hdd:decide ((24:Int)<u.depth)=true:=by simp[hd]
        have HD:=Lib.hid hd
        clear hd
        go_wp2_with (go_at_call 41;refine(refused_any 31 u.at_ te pe _ (by first|exact hzq|simpa using hzq|exact(World.grownBy_alloc wr _ none).cell hzq (by simp))).mono ?_;rintro e w' ⟨rfl,rfl⟩)
        rw[<-HQ.out]
        have hout:qj (Res.ok ts j)= .fault 31 u.at_:=by
         show xz (flatTs ts 1)=_
         rw[HLL.out]
         unfold xz
         rw[if_neg hm]
         have:l.find? (fun n=>decide (24<n.depth))=some u:=by
          rw[List.find?_eq_some_iff_getElem]
          refine⟨by simpa using HD.out,k,hlk,?_,fun i hi=>?_⟩
          ·have:=HU.out
           rw[List.getElem?_eq_getElem hlk] at this
           exact Option.some.inj this
          ·have:=HSM.out i (l[i]'(by omega)) hi (List.getElem?_eq_getElem (by omega))
           simpa using this
         rw[this]
        rw[hout]
        have kw:=HKW.out
        have skw:=kw.size
        have hn:=HN.out
        have g4:=World.grownBy_alloc wr (Obj.cells #[Value.int IntKind.i64 u.depth,Value.int IntKind.i64 u.kind,Value.string u.name,Value.int IntKind.i64 u.num,Value.int IntKind.i64 u.op,Value.int IntKind.i64 u.at_] 50) none
        have g5:=World.grownBy_alloc (wr.alloc (Obj.cells #[Value.int IntKind.i64 u.depth,Value.int IntKind.i64 u.kind,Value.string u.name,Value.int IntKind.i64 u.num,Value.int IntKind.i64 u.op,Value.int IntKind.i64 u.at_] 50)) (Obj.cells #[Value.int IntKind.i64 31,Value.int IntKind.i64 u.at_,Value.iface te pe] 73) none
        have g6:=grown_trans g4 g5
        have s6:=g6.size
        have w3s:=HI2.out.size
        have y1:wr.cell? ⟨n0,0,none⟩=_:=(HBQ.out.cell (p:=⟨n0,0,none⟩) (by show n0<_;omega)).trans x1
        have y2:wr.frozen? ⟨n0,0,none⟩=false:=(HBQ.out.frozen (p:=⟨n0,0,none⟩) (by show n0<_;omega)).trans x2
        have y3:wr.cell? ⟨n0+1,0,none⟩=some .nilIface:=(HBQ.out.cell (p:=⟨n0+1,0,none⟩) zl).trans z3
        have y4:wr.frozen? ⟨n0+1,0,none⟩=false:=(HBQ.out.frozen (p:=⟨n0+1,0,none⟩) zl).trans zf3
        exact kE te pe w _ _ n0 (wr.heap.size+1) 31 u.at_ _ _ _ rfl rfl hn ⟨HBQ.out.os.trans kw.os,HBQ.out.output.trans kw.out,by omega,fun x hx=>(g6.block x (by omega) (by simp)).trans ((HBQ.out.block x (by omega)).trans (kw.block x hx))⟩
         (g6.cell y1 (by simp)) (g6.cell y3 (by simp)) ((World.frozen?_of_block (a:=⟨n0,0,none⟩) (g6.block n0 (by omega) (by simp))).trans y2) ((World.frozen?_of_block (a:=⟨n0+1,0,none⟩) (g6.block (n0+1) (by omega) (by simp))).trans y4) (by omega) (by omega) (by simpa using heap_alloc_new (wr.alloc (Obj.cells #[Value.int IntKind.i64 u.depth,Value.int IntKind.i64 u.kind,Value.string u.name,Value.int IntKind.i64 u.num,Value.int IntKind.i64 u.op,Value.int IntKind.i64 u.at_] 50)) (Obj.cells #[Value.int IntKind.i64 31,Value.int IntKind.i64 u.at_,Value.iface te pe] 73))
       ·have hdd:decide ((24:Int)<u.depth)=false:=by simp;omega
        have HD:=Lib.hid hd
        clear hd
        go_wp2
        go_roundg (l.length-(k+1))
        case measure=>have:=HGG2.out;omega
        case rel=>
         refine⟨k+1,by go_num,by omega,rfl,HBQ.out.alloc sq _,fun i n hi hin=>?_⟩
         by_cases hik:i=k
         ·subst hik
          rw[HU.out] at hin
          cases hin
          exact HD.out
         ·exact HSM.out i n (by omega) hin
      ·have hI:=HI2.out
       have y1:wr.cell? ⟨n0,0,none⟩=some (.slice b l.length c):=(HBQ.out.cell (p:=⟨n0,0,none⟩) (by have:=hI.size;show n0<_;omega)).trans x1
       have y2:wr.frozen? ⟨n0,0,none⟩=false:=(HBQ.out.frozen (p:=⟨n0,0,none⟩) (by have:=hI.size;show n0<_;omega)).trans x2
       have y3:wr.cell? ⟨n0+1,0,none⟩=some .nilIface:=(HBQ.out.cell (p:=⟨n0+1,0,none⟩) zl).trans z3
       have y4:wr.frozen? ⟨n0+1,0,none⟩=false:=(HBQ.out.frozen (p:=⟨n0+1,0,none⟩) zl).trans zf3
       have HIH:=Lib.hid hI
       clear hI
       go_wp2
       rw[<-HQ.out]
       have hn:=HN.out
       have kw:=HKW.out
       have sq:=HBQ.out.size
       have skw:=kw.size
       have hkl:k=l.length:=by omega
       have hout:qj (Res.ok ts j)= .tree l:=by
        show xz (flatTs ts 1)=_
        rw[HLL.out]
        unfold xz
        rw[if_neg hm]
        have:l.find? (fun n=>decide (24<n.depth))=none:=by
         rw[List.find?_eq_none]
         intro x hx hd
         obtain⟨i,hi,hix⟩:=List.getElem_of_mem hx
         have h9:=HSM.out i x (by omega) (by rw[List.getElem?_eq_getElem hi,hix])
         have h10:24<x.depth:=by simpa using hd
         omega
        rw[this]
       rw[hout]
       have g1:=zq wr n0 0 (.slice b l.length c)
       have g2:=zq (wr.setCell ⟨n0,0,none⟩ (.slice b l.length c)) (n0+1) 0 .nilIface
       have p2:((wr.setCell ⟨n0,0,none⟩ (.slice b l.length c)).setCell ⟨n0+1,0,none⟩ .nilIface).cell? ⟨n0,0,none⟩=some (.slice b l.length c):=by simp[go_sem,y1]
       have p3:((wr.setCell ⟨n0,0,none⟩ (.slice b l.length c)).setCell ⟨n0+1,0,none⟩ .nilIface).cell? ⟨n0+1,0,none⟩=some .nilIface:=by simp[go_sem,y3]
       have s1:=g1.size
       have s2:=g2.size
       refine zdK te pe w _ _ n0 l b c rfl rfl ⟨(HBQ.out.os.trans kw.os),(HBQ.out.output.trans kw.out),by omega,fun x hx=>?_⟩ p2 p3 ?_
       ·exact(g2.block x (by omega) (by simp;omega)).trans ((g1.block x (by omega) (by simp;omega)).trans ((HBQ.out.block x (by omega)).trans (kw.block x hx)))
       ·have ho:=HIH.out.own
        have w3s:=HIH.out.size
        have hrow:=fun y (hy:(Value.slice b l.length c).ownBlock=some y)=>ho.lt y hy
        have ho1:wr.ownsRow w3.heap.size 50 6 (.slice b l.length c) l.length (ndCells l):=by
         refine⟨ho.1,ho.2.imp id fun⟨g',cap,cur,h1,h2,h3,h4⟩=>⟨g',cap,cur,h1,h2,?_,h4⟩⟩
         rw[HBQ.out.block g' (Array.getElem?_eq_some_iff.1 h3).1]
         exact h3
        have ne2:∀z:Nat,z<=n0+1->z<w3.heap.size->((Value.slice b l.length c).ownBlock=none\/(Value.slice b l.length c).ownBlock≠some z):=fun z h1 h2=>by
         cases hv:(Value.slice b l.length c).ownBlock with
         |none=>exact .inl rfl
         |some y=>right;have:=hrow y hv;simp;omega
        have ho2:=(ho1.kept g1 (ne2 n0 (by omega) hn3)).kept g2 (ne2 (n0+1) (by omega) (by omega))
        exact⟨ho2.1,ho2.2.imp id fun⟨g',cap,cur,h1,h2,h3⟩=>⟨g',cap,cur,h1,by omega,h3⟩⟩
theorem zeM{C C':Ctx}(hl:C.l=C'.l)(he:C.e=C'.e):∀(f:Nat) (nt:NT) (i:Nat),rd C f nt i=rd C' f nt i:=by
 intro f
 induction f with
 |zero=>intro nt i;cases nt<;>rfl
 |succ f ih=>
  intro nt i
  have h1:∀s i,wantR C s i=wantR C' s i:=fun s i=>by unfold wantR;rw[hl,he]
  have h2:∀i,yx C i=yx C' i:=fun i=>by unfold yx;rw[hl,he]
  have h3:∀i,z6 C i=z6 C' i:=fun i=>by unfold z6;rw[hl,he]
  cases nt<;>simp only[rd,ih,h1,h2,h3,hl,he]<;>rfl
def ctx0(s:ByteArray):Ctx:=⟨zd (pieces s),s.size,0,undef,0,0⟩
def xy(s:ByteArray)(o:POut):Prop:=
 if 8192<s.size then o= .fault 21 8192
 else if (badOf (pieces s)).1≠0 then o= .fault (badOf (pieces s)).1 (badOf (pieces s)).2
 else ∃f r,rd (ctx0 s) f .prog 0=some r/\o=qj r
theorem gY(s:ByteArray):∃o,xy s o:=by
 unfold xy
 split
 ·exact⟨_,rfl⟩
 ·split
  ·exact⟨_,rfl⟩
  ·obtain⟨f,r,h⟩:=zcE (ctx0 s) (meas (ctx0 s) .prog 0+1) .prog 0 (Nat.lt_succ_self _)
   exact⟨_,f,r,h,rfl⟩
theorem run_callf{f:FuncId}{fn:Func}(hf:Tryz.prog.funcs[f]? =some fn)(hn:(fn.name== "runtime.NumGoroutine")=false)(hb:fn.body.isNone=false){o:Oper}{ags:Array Operand}{ts:Array TypeId}(ho:o.op= .call {callee:= .value (.func f),args:=ags,argTypes:=ts})(a:Act)(w:World):
 (execOp a.eval o).run Tryz.prog w= .ok (.enter f (ags.map a.eval)) w:=by
 unfold execOp
 rw[ho]
 simp[resolve,Deferred.ofValue,Act.eval,xZ,invoke]
 exact yY hf hn hb _ w
theorem j9(hP:TameProg Tryz.prog){Q:Exit->Act->World->Prop}{a:Act}{w:World}{ops:Array Oper}{o:Oper}{l:List Oper}{f:FuncId}{fn:Func}{ags:Array Operand}{ts:Array TypeId}{args:Array Value}(hf:Tryz.prog.funcs[f]? =some fn)(hn:(fn.name== "runtime.NumGoroutine")=false)(hb:fn.body.isNone=false)
 (hw:Region.wanted o (yielded ops a.tmps)=true) (ho:o.op= .call {callee:= .value (.func f),args:=ags,argTypes:=ts}) (ha:ags.map a.eval=args)
 (h:CallsB Tryz.prog f args w fun
  | .returned v,w'=>yR Tryz.prog ops Q l (a.put o.dst v) w'
  | .panicked chain,w'=>Q (.panic chain) a w'
  | .outgrown,_=>False):yR Tryz.prog ops Q (o::l) a w:=by
 subst ha
 exact zdJ hP hw (fun T d=>run_callf hf hn hb ho a _) h
noncomputable def pk1:Code:=seqL (seqR pk0)
theorem zjs:∃id,pk1= .region id (zo pk1) false:=⟨_,rfl⟩
theorem zaa(hP:TameProg Tryz.prog)(s:ByteArray)(hs:s.size<=9223372036854775807)(te:TypeId)(pe:Value)(w:World)(hv:VarsOk w)(ce:w.cell? ⟨0,0,none⟩=some (.iface te pe))(o:POut)(ho:xy s o):
 CallsB Tryz.prog 14 #[.string s] w (xY te pe w o):=by
 refine kr Tryz.func14 (c:=pk0) rfl ?_
 have e0:pk0= .seq (seqL pk0) (.seq pk1 pk2):=rfl
 rw[e0]
 have ha:(#[Value.string s]++Array.replicate (Tryz.f14.ntmps- #[Value.string s].size) undef)= #[.string s,undef,undef,undef,undef,undef,undef,undef,undef,undef,undef,undef,undef,undef,undef,undef,undef,undef,undef,undef,undef,undef,undef,undef,undef,undef,undef,undef,undef,undef,undef,undef,undef,undef,undef,undef,undef,undef,undef,undef,undef,undef,undef,undef,undef,undef,undef,undef,undef,undef,undef,undef,undef,undef,undef,undef,undef,undef,undef,undef,undef,undef,undef,undef,undef]:=by
  simp only[Tryz.ntmps14]
  simp[Array.replicate_succ]
 rw[ha]
 have hR:∀w',¬xY te pe w o .outgrown w':=fun w' h=>h
 refine jt hP Tryz.func14 hR (wpB_lift hP fun T d=>?_)
 generalize hB:bodyPost Tryz.prog Tryz.f14 (xY te pe w o)=B
 generalize hY:(Code.seq pk1 pk2)=Y
 have HV:=Lib.hid hv
 have HO:=Lib.hid ho
 have HCE:=Lib.hid ce
 clear hv ho ce
 simp only[seqL,pk0,Tryz.f14,Option.getD_some]
 go_wp2
 subst hY
 rw[show(((re w T d).alloc (Obj.cells #[Value.slice none 0 0] 25)).alloc (Obj.cells #[Value.nilIface] 27))=re ((w.alloc (Obj.cells #[Value.slice none 0 0] 25)).alloc (Obj.cells #[Value.nilIface] 27)) T d from rfl]
 subst hB
 generalize hW:(w.alloc (Obj.cells #[Value.slice none 0 0] 25)).alloc (Obj.cells #[Value.nilIface] 27)=W
 have k1:Kin w W:=by
  have g1:=World.grownBy_alloc w (Obj.cells #[Value.slice none 0 0] 25) none
  have g2:=World.grownBy_alloc (w.alloc (Obj.cells #[Value.slice none 0 0] 25)) (Obj.cells #[Value.nilIface] 27) none
  have s1:=g1.size
  have s2:=g2.size
  subst hW
  exact⟨rfl,rfl,by omega,fun k hk=>(g2.block k (by omega) (by simp)).trans (g1.block k hk (by simp))⟩
 have c2:W.cell? ⟨w.heap.size,0,none⟩=some (.slice none 0 0):=by subst hW;simp[go_sem]
 have c3:W.cell? ⟨w.heap.size+1,0,none⟩=some .nilIface:=by subst hW;simp[go_sem]
 have f2:W.frozen? ⟨w.heap.size,0,none⟩=false:=by subst hW;simp[go_sem]
 have f3:W.frozen? ⟨w.heap.size+1,0,none⟩=false:=by subst hW;simp[go_sem]
 have l3:w.heap.size+1<W.heap.size:=by subst hW;simp
 have hz:0<w.heap.size:=World.block_lt_of_cell? w ⟨0,0,none⟩ HCE.out
 clear hW ha e0
 intro cs
 refine Bes.tape (T:=T) (d:=d) ?_
 revert cs
 show jH Tryz.prog 14 _ _ _ W
 refine jt hP Tryz.func14 hR ?_
 obtain⟨id,hid⟩:=zjs
 rw[hid]
 generalize hB:bodyPost Tryz.prog Tryz.f14 (xY te pe w o)=B
 clear hB hid
 generalize hX:pk2=X
 simp only[pk1,pk0,seqL,seqR,zo,Tryz.f14,Option.getD_some]
 subst hX
 refine qQ hP (l:=[_,_,_,_,_,_,_,_,_]) ?_
 refine listB_cut hP [_] [_,_,_,_,_,_,_,_] fun T d=>?_
 generalize hN:yR Tryz.prog _ _ _=N
 go_wp2
 subst hN
 refine vf ?_
 refine j9 hP Tryz.func40 (by kernel_rfl) (by kernel_rfl) rfl rfl (args:= #[.string s]) (by simp[Act.eval,xZ]) ((zcZ hP s hs W (HV.out.kin k1)).mono ?_)
 rintro e w1 hpost
 cases e with
 |outgrown=>exact hpost.elim
 |panicked _=>exact hpost.elim
 |returned v=>
  obtain⟨kin,hres⟩:=hpost
  have kw:Kin w w1:=k1.trans kin
  have d2:w1.cell? ⟨w.heap.size,0,none⟩=some (.slice none 0 0):=(kin.cell (by omega)).trans c2
  have d3:w1.cell? ⟨w.heap.size+1,0,none⟩=some .nilIface:=(kin.cell l3).trans c3
  have g2:w1.frozen? ⟨w.heap.size,0,none⟩=false:=(kin.frozen (by omega)).trans f2
  have g3:w1.frozen? ⟨w.heap.size+1,0,none⟩=false:=(kin.frozen l3).trans f3
  have l4:w.heap.size+1<w1.heap.size:=by have:=kin.size;omega
  have ce1:w1.cell? ⟨0,0,none⟩=some (.iface te pe):=(kw.cell hz).trans HCE.out
  have hsz:=k1.size
  have hO:=HO.out
  unfold xy at hO
  unfold TokRes at hres
  show yR Tryz.prog _ _ _ _ w1
  by_cases h1:8192<s.size
  ·rw[if_pos h1] at hres hO
   subst hres hO
   have hfin:=fun T d=>parse_bad s te pe w (re w1 T d) w.heap.size (.slice none 0 0) 21 8192 (by decide) rfl (Kin.mk kw.os kw.out kw.size kw.block) d2 d3 g2 g3 l4 ce1
   have HT:=Lib.hid (jG hP Tryz.func14 hR hfin)
   clear hfin d2 d3 g2 g3 l4 ce1 kw kin h1 c2 c3 f2 f3 l3
   generalize hX:pk2=X at HT⊢
   clear hX
   generalize hN:Exit.then (jH Tryz.prog 14 _ X) B=N
   refine listB_lift hP fun T d=>?_
   go_wp2
   subst hN
   exact HT.out
  ·rw[if_neg h1] at hres hO
   by_cases h2:(badOf (pieces s)).1≠0
   ·rw[if_pos h2] at hres hO
    subst hres hO
    have hfin:=fun T d=>parse_bad s te pe w (re w1 T d) w.heap.size (.slice none 0 0) (badOf (pieces s)).1 (badOf (pieces s)).2 h2 rfl (Kin.mk kw.os kw.out kw.size kw.block) d2 d3 g2 g3 l4 ce1
    have HT:=Lib.hid (jG hP Tryz.func14 hR hfin)
    clear hfin d2 d3 g2 g3 l4 ce1 kw kin h1 c2 c3 f2 f3 l3
    generalize hX:pk2=X at HT⊢
    clear hX
    generalize (badOf (pieces s)).1=x1 at HT⊢
    generalize (badOf (pieces s)).2=x2 at HT⊢
    generalize hN:Exit.then (jH Tryz.prog 14 _ X) B=N
    refine listB_lift hP fun T d=>?_
    go_wp2
    subst hN
    exact HT.out
   ·rw[if_neg h2] at hres hO
    obtain⟨sl,rfl,hown⟩:=hres
    obtain⟨f,r,hr,rfl⟩:=hO
    have hL:(zd (pieces s)).length<=8193:=by
     have a1:=jC s
     have a2:(zd (pieces s)).length<=(pieces s).length:=List.length_filter_le _ _
     omega
    have hfin:=fun T d=>zdu s (by omega) te pe w (re w1 T d) w.heap.size f sl 0 r ((zeM (C:=ctxOf s te pe w1.heap.size sl) (C':=ctx0 s) rfl rfl f .prog 0).trans hr) rfl (Kin.mk kw.os kw.out kw.size kw.block) d2 d3 g2 g3 l4 ce1 W.heap.size hown hL
    have HT:=Lib.hid (jG hP Tryz.func14 hR hfin)
    clear hfin d2 d3 g2 g3 l4 ce1 kw kin h1 c2 c3 f2 f3 l3 hown hr
    generalize hX:pk2=X at HT⊢
    clear hX
    generalize hN:Exit.then (jH Tryz.prog 14 _ X) B=N
    refine listB_lift hP fun T d=>?_
    go_wp2
    subst hN
    exact HT.out
open Go.RowKit
def StandPost(w:World)(B r gb:Nat)(o:List Hold)(heads:Bool)(n:Nd)(e:Ending)(w':World):Prop:=
 Ap r gb w w'/\match xA o heads n with
 |none=>e= .returned (.bool false)
 |some (o',h')=>e= .returned (.bool true)/\ShM w' B r gb o' h'
noncomputable def st0:Code:=(Tryz.f51.body.getD .skip)
noncomputable def zF:Code:=seqR (seqR (seqR st0))
theorem zaN{o1:List Hold}{m:Nat}{d:Int}(hm:m<=o1.length)(h1:∀(j:Nat) (x:Hold),m<=j->o1[j]? =some x->d<=x.depth)(h2:m=0\/∃x,o1[m-1]? =some x/\x.depth<d):popF d o1=o1.take m:=by
 unfold popF
 rw[zcN (k:=m) (h2.imp id fun⟨x,a,b⟩=>⟨x,a,by simpa using b⟩) fun j y hj hy=>by have:=h1 j y hj hy;simp;omega]
theorem zcK:(Tryz.prog.info? 157).map (fun i=>(i.zero,i.size,i.bytes))=some (some (.agg #[.int .i64 0, .int .i64 0, .slice none 0 0, .int .i64 0]),4,48):=by kernel_rfl
theorem zev(x:Int)(w:World):Calls Tryz.prog 99 #[.int .i64 x] w fun e w'=>∃b n cap,e= .returned (.slice b n cap)/\Kin w w'/\∀r gb,r<w.heap.size->gb<w.heap.size->zR w' r gb (.slice b n cap) (zx x):=by
 refine(zcX x w).mono ?_
 rintro e w' ⟨rfl,rfl⟩
 unfold wantsV wantsW
 by_cases hl:zx x=[]
 ·rw[if_pos hl,if_pos hl]
  exact⟨_,_,_,rfl,Kin.refl _,fun r gb _ _=>⟨none,0,by rw[hl];rfl,by rw[hl];exact Nat.le_refl _,fun h=>absurd hl h⟩⟩
 ·rw[if_neg hl,if_neg hl]
  refine⟨_,_,_,rfl,(Kin.refl w).alloc _,fun r gb h1 h2=>⟨_,_,rfl,Nat.le_refl _,fun _=>⟨w.heap.size,0,rfl,by omega,by omega,fun i y hy=>?_⟩⟩⟩
  rw[Nat.zero_add]
  have hb:=heap_alloc_new w (.cells ((zx x).map (Value.int .i64)).toArray 3)
  unfold World.cell?
  simp only[hb]
  simp[hy]
theorem zhn(a b c:Int){v:Value}(hv:v.oneCell'=true):∀u∈[Value.int .i64 a, .int .i64 b,v, .int .i64 c],u.oneCell'=true:=by
 intro u hu
 simp only[List.mem_cons,List.not_mem_nil,or_false] at hu
 rcases hu with rfl|rfl|rfl|rfl<;>first|rfl|exact hv
theorem four_new(w:World)(a b c d:Value)(T:TypeId):∀(j:Nat) (u:Value),[a,b,c,d][j]? =some u->(w.alloc (.cells #[a,b,c,d] T)).cell? ((⟨w.heap.size,0,none⟩:Addr).add j)=some u:=by
 intro j u hj
 match j,hj with
 |0,hj=>simp at hj;subst hj;simp[go_sem,Addr.add]
 |1,hj=>simp at hj;subst hj;simp[go_sem,Addr.add]
 |2,hj=>simp at hj;subst hj;simp[go_sem,Addr.add]
 |3,hj=>simp at hj;subst hj;simp[go_sem,Addr.add]
 |j+4,hj=>simp at hj
theorem zbL{w:World}{B r gb m:Nat}{o:List Hold}{heads:Bool}(hm:m<26)(h:ShM w B r gb o heads)(w':World)(k:Kin w w'):∀j,j<4->(w'.cell? ⟨gb,0+m*4+j,none⟩).isSome=true/\w'.frozen? ⟨gb,0+m*4+j,none⟩=false:=by
 intro j hj
 obtain⟨F,h1,_⟩:=h.row
 have h2:=h1.of_block (k.block gb h1.lt)
 exact⟨by rw[h2.cell (by omega)];rfl,h2.frozen _⟩
theorem hstep{P:Program}{md:Region.Mode}{ops:Array Oper}{Q:Exit->Act->World->Prop}{S:World->Prop}{fuel:Nat}{listed:Array Bool}{a:Act}{w:World}{i:Nat}{o:Oper}(hr:Region.ready md ops listed=[i])(ho:ops[i]? =some o)(hgd:o.guard=none)
 (h:o.wp P a w (fun a' w'=>S w'/\wpAnyH P md ops Q S fuel (listed.setIfInBounds i true) a' w') Q):wpAnyH P md ops Q S (fuel+1) listed a w:=by
 refine wpAnyH_ready hr (by simp) fun j hj=>?_
 obtain rfl:j=i:=by simpa using hj
 unfold wpOp
 rw[ho]
 have hw:Region.wanted o (yielded ops a.tmps)=true:=by simp[Region.wanted,hgd]
 simp only[hw,if_true]
 exact .inl h
theorem za8{P:Program}{md:Region.Mode}{ops:Array Oper}{Q:Exit->Act->World->Prop}{S:World->Prop}{fuel:Nat}{listed:Array Bool}{a:Act}{w:World}{i j:Nat}{o p:Oper}(hr:Region.ready md ops listed=[i,j])(ho:ops[i]? =some o)(hgd:o.guard=none)(hp:ops[j]? =some p)(hgp:p.guard=none)
 (h:o.wp P a w (fun a' w'=>S w'/\wpAnyH P md ops Q S fuel (listed.setIfInBounds i true) a' w') Q) (k:p.wp P a w (fun a' w'=>S w'/\wpAnyH P md ops Q S fuel (listed.setIfInBounds j true) a' w') Q):wpAnyH P md ops Q S (fuel+1) listed a w:=by
 refine wpAnyH_ready hr (by simp) fun x hx=>?_
 have hx:x=i\/x=j:=by simpa using hx
 unfold wpOp
 rcases hx with rfl|rfl
 ·rw[ho]
  have hw:Region.wanted o (yielded ops a.tmps)=true:=by simp[Region.wanted,hgd]
  simp only[hw,if_true]
  exact .inl h
 ·rw[hp]
  have hw:Region.wanted p (yielded ops a.tmps)=true:=by simp[Region.wanted,hgp]
  simp only[hw,if_true]
  exact .inl k
structure Ev (D:List Deferred) (n:Nat) (a:Act) (l:List (Nat×Value)):Prop where
 size:a.tmps.size=n
 defers:a.defers=D
 at_:∀p∈l,a.eval (.tmp p.1)=p.2
theorem Ev.put{D:List Deferred}{n:Nat}{a:Act}{l:List (Nat×Value)}(h:Ev D n a l)(k:Nat)(v:Value)(hk:k<n)(hl:(l.map (·.1)).contains k=false):Ev D n (a.put (some k) v) ((k,v)::l):=by
 refine⟨by show(a.tmps.setIfInBounds k v).size=n;simp[h.size],h.defers,fun p hp=>?_⟩
 rcases List.mem_cons.1 hp with rfl|hp
 ·show(a.tmps.setIfInBounds k v).getD k undef=v
  simp[Array.getD_eq_getD_getElem?,Array.getElem?_setIfInBounds,h.size,hk]
 ·have hne:k≠p.1:=by
   intro e
   have hc:(l.map (·.1)).contains p.1=true:=by
    rw[List.contains_iff_mem]
    exact List.mem_map_of_mem hp
   rw[e,hc] at hl
   cases hl
  show(a.tmps.setIfInBounds k v).getD p.1 undef=p.2
  rw[<-h.at_ p hp]
  show _=a.tmps.getD p.1 undef
  simp only[Array.getD_eq_getD_getElem?]
  rw[Array.getElem?_setIfInBounds_ne hne]
theorem Ev.skip{D:List Deferred}{n:Nat}{a:Act}{l:List (Nat×Value)}(h:Ev D n a l)(v:Value):Ev D n (a.put none v) l:=h
theorem Ev.get{D:List Deferred}{n:Nat}{a:Act}{l:List (Nat×Value)}(h:Ev D n a l)(k:Nat)(v:Value)(hm:(k,v)∈l):a.eval (.tmp k)=v:=h.at_ (k,v) hm
theorem ShM.push{W:World}{B r gb m:Nat}{o2:List Hold}{h':Bool}(h:ShM W B r gb o2 h')(hl:o2.length=m)(hm:m<26){wv:Value}{l:List Int}(kind depth blocks:Int)(hw:zR W r gb wv l):
 ShM ((((((W.setCell ⟨gb,m*4,none⟩ (.int .i64 kind)).setCell ⟨gb,m*4+1,none⟩ (.int .i64 depth)).setCell ⟨gb,m*4+2,none⟩ wv).setCell ⟨gb,m*4+3,none⟩ (.int .i64 blocks))).setCell ⟨r,0,none⟩ (.slice (some ⟨gb,0,none⟩) (m+1:Nat) 26)) B r gb (o2++[⟨kind,depth,l,blocks⟩]) h':=by
 obtain⟨F,h1,h2⟩:=h.row
 have hk:∀k,k≠r->k≠gb->((((((W.setCell ⟨gb,m*4,none⟩ (.int .i64 kind)).setCell ⟨gb,m*4+1,none⟩ (.int .i64 depth)).setCell ⟨gb,m*4+2,none⟩ wv).setCell ⟨gb,m*4+3,none⟩ (.int .i64 blocks))).setCell ⟨r,0,none⟩ (.slice (some ⟨gb,0,none⟩) (m+1:Nat) 26)).heap[k]? =W.heap[k]? :=fun k e1 e2=>by
  rw[Go.Deep.blk_setCell_other _ _ _ _ e1,Go.Deep.blk_setCell_other _ _ _ _ e2,Go.Deep.blk_setCell_other _ _ _ _ e2,Go.Deep.blk_setCell_other _ _ _ _ e2,Go.Deep.blk_setCell_other _ _ _ _ e2]
 have hs:=((((h.s.setOther (a:=⟨gb,m*4,none⟩) h.ne (.int .i64 kind)).setOther (a:=⟨gb,m*4+1,none⟩) h.ne (.int .i64 depth)).setOther (a:=⟨gb,m*4+2,none⟩) h.ne wv).setOther (a:=⟨gb,m*4+3,none⟩) h.ne (.int .i64 blocks)).set 0 (.slice (some ⟨gb,0,none⟩) (m+1:Nat) 26)
 have hr:=((((h1.set (m*4) (.int .i64 kind)).set (m*4+1) (.int .i64 depth)).set (m*4+2) wv).set (m*4+3) (.int .i64 blocks)).setOther (a:=⟨r,0,none⟩) (fun e=>h.ne e.symm) (.slice (some ⟨gb,0,none⟩) (m+1:Nat) 26)
 refine⟨hs.congr fun i hi=>?_,⟨_,hr,fun j x hx=>?_⟩,by simp;omega,h.ne,h.hr,h.hg⟩
 ·match i,hi with
  |0,_=>simp[shF,hl]
  |1,_=>rfl
 ·by_cases hj:j<o2.length
  ·rw[List.getElem?_append_left hj] at hx
   obtain⟨a,b,c,d⟩:=h2 j x hx
   simp only[show ¬j*4=m*4 from by omega,show ¬j*4=m*4+1 from by omega,show ¬j*4=m*4+2 from by omega,show ¬j*4=m*4+3 from by omega,
    show ¬j*4+1=m*4 from by omega,show ¬j*4+1=m*4+1 from by omega,show ¬j*4+1=m*4+2 from by omega,show ¬j*4+1=m*4+3 from by omega,
    show ¬j*4+2=m*4 from by omega,show ¬j*4+2=m*4+1 from by omega,show ¬j*4+2=m*4+2 from by omega,show ¬j*4+2=m*4+3 from by omega,
    show ¬j*4+3=m*4 from by omega,show ¬j*4+3=m*4+1 from by omega,show ¬j*4+3=m*4+2 from by omega,show ¬j*4+3=m*4+3 from by omega,if_false]
   exact⟨a,b,c,d.kept fun k _ e1 e2=>hk k e1 e2⟩
  ·rw[List.getElem?_append_right (by omega)] at hx
   have hj2:j=m:=by
    cases hjm:j-o2.length with
    |zero=>omega
    |succ q=>rw[hjm] at hx;simp at hx
   subst hj2
   rw[show j-o2.length=0 from by omega] at hx
   simp at hx
   subst hx
   simp only[show ¬j*4=j*4+1 from by omega,show ¬j*4=j*4+2 from by omega,show ¬j*4=j*4+3 from by omega,show ¬j*4+1=j*4+2 from by omega,show ¬j*4+1=j*4+3 from by omega,show ¬j*4+2=j*4+3 from by omega,if_false,if_true]
   exact⟨trivial,trivial,trivial,hw.kept fun k _ e1 e2=>hk k e1 e2⟩
noncomputable def yj:Code:=seqR zF
noncomputable def zZ:Code:=seqR yj
theorem zeB:zF= .seq (seqL zF) yj:=rfl
theorem zgC:yj= .seq (seqL yj) zZ:=rfl
theorem zgD:zZ= .seq (seqL zZ) (seqR zZ):=rfl
noncomputable def zg:Array Oper:=zo (seqL zZ)
theorem zgX:∃id,seqL zZ= .region id zg true:=⟨_,rfl⟩
theorem zdl(W:World)(g n:Nat)(a b c d:Value):W.setCells g (0+n*4) [a,b,c,d]=(((W.setCell ⟨g,n*4,none⟩ a).setCell ⟨g,n*4+1,none⟩ b).setCell ⟨g,n*4+2,none⟩ c).setCell ⟨g,n*4+3,none⟩ d:=by
 rw[Nat.zero_add]
 rfl
section
variable {B r gb N m:Nat} {o2:List Hold} {h':Bool} {depth kind:Int} {Q:Exit->Act->World->Prop} {D:List Deferred} {w:World}
def AppK(w:World)(B r gb:Nat)(o2:List Hold)(h':Bool)(kind depth:Int)(D:List Deferred)(Q:Exit->Act->World->Prop):Prop:=
 ∀(a':Act) (w':World),a'.tmps.size=223->a'.defers=D->ShM w' B r gb (o2++[⟨kind,depth,zx kind,0⟩]) h'->Ap r gb w w'->Q .normal a' w'
def SN(N:Nat)(depth kind:Int)(w:World):Prop:=w.cell? ⟨N,0,none⟩=some (.int .i64 depth)/\w.cell? ⟨N,1,none⟩=some (.int .i64 kind)
theorem um(hQ:AppK w B r gb o2 h' kind depth D Q)(hm:m<=24)(hl:o2.length=m)(hNr:N≠r)(hNg:N≠gb)(listed:Array Bool)(r14:Region.ready .any zg listed=[14])(r15:Region.ready .any zg (listed.setIfInBounds 14 true)=[15])(r16:Region.ready .any zg ((listed.setIfInBounds 14 true).setIfInBounds 15 true)=[16])
 (r17:Region.ready .any zg (((listed.setIfInBounds 14 true).setIfInBounds 15 true).setIfInBounds 16 true)=[17]) (r18:Region.ready .any zg ((((listed.setIfInBounds 14 true).setIfInBounds 15 true).setIfInBounds 16 true).setIfInBounds 17 true)=[])
 (a:Act) (l:List (Nat×Value)) (hE:Ev D 223 a l) (W3:World) (k3:Kin w W3) (hM:ShM w B r gb o2 h') (b:Option Addr) (n c:Nat) (hw:zR W3 r gb (.slice b n c) (zx kind)) (hS:SN N depth kind W3)
 (m206:(206,Value.pointer (some ⟨r,0,none⟩))∈l) (m210:(210,Value.slice (some ⟨gb,0,none⟩) m 26)∈l) (m219:(219,Value.slice (some ⟨W3.heap.size,0,none⟩) 1 1)∈l) (hl2:∀k,k=220\/k=221\/k=222->(l.map (·.1)).contains k=false):
 wpAnyH Tryz.prog .any zg Q (SN N depth kind) 4 listed a (W3.alloc (.cells #[.int .i64 kind, .int .i64 depth, .slice b n c, .int .i64 0] 157)):=by
 obtain⟨ti,hi,hz0,hz1,hz2⟩:=info_parts zcK
 have k4:=k3.alloc (.cells #[.int .i64 kind, .int .i64 depth, .slice b n c, .int .i64 0] 157)
 have hM4:=hM.kin k4
 have hsp:=zbL (m:=m) (by omega) hM _ k4
 have hone:=zhn kind depth 0 (v:= .slice b n c) rfl
 have hSN:SN N depth kind (W3.alloc (.cells #[.int .i64 kind, .int .i64 depth, .slice b n c, .int .i64 0] 157)):=by
  have g:=World.grownBy_alloc W3 (.cells #[.int .i64 kind, .int .i64 depth, .slice b n c, .int .i64 0] 157) none
  exact⟨g.cell hS.1 (by simp),g.cell hS.2 (by simp)⟩
 have hw4:zR (W3.alloc (.cells #[.int .i64 kind, .int .i64 depth, .slice b n c, .int .i64 0] 157)) r gb (.slice b n c) (zx kind):=hw.kept fun k hk _ _=>(World.grownBy_alloc W3 _ none).block k hk (by simp)
 have hnew:=four_new W3 (.int .i64 kind) (.int .i64 depth) (.slice b n c) (.int .i64 0) 157
 have a4:Ap r gb w (W3.alloc (.cells #[.int .i64 kind, .int .i64 depth, .slice b n c, .int .i64 0] 157)):=Ap.of_kin k4
 generalize hW4:W3.alloc (.cells #[.int .i64 kind, .int .i64 depth, .slice b n c, .int .i64 0] 157)=W4 at hM4 hsp hSN hnew hw4 a4⊢
 have e206:=hE.get _ _ m206
 have e210:=hE.get _ _ m210
 have e219:=hE.get _ _ m219
 refine hstep (i:=14) (o:=_) r14 rfl rfl ?_
 have hw14:Region.wanted (zg[14]?.getD default) (yielded zg a.tmps)=true:=rfl
 suffices hK:SN N depth kind (W4.setCells gb (0+m*4) [.int .i64 kind, .int .i64 depth, .slice b n c, .int .i64 0])/\wpAnyH Tryz.prog .any zg Q (SN N depth kind) 3 (listed.setIfInBounds 14 true) (a.put (zg[14]?.getD default).dst (.slice (some ⟨gb,0,none⟩) (m+1) 26)) (W4.setCells gb (0+m*4) [.int .i64 kind, .int .i64 depth, .slice b n c, .int .i64 0]) by
  have:=step_append_room (P:=Tryz.prog) (ops:=zg) (w:=W4) (a:=a) (o:=(zg[14]?.getD default)) (Q:=Q) (E:=True) (K:=fun a' w'=>SN N depth kind w'/\wpAnyH Tryz.prog .any zg Q (SN N depth kind) 3 (listed.setIfInBounds 14 true) a' w') rfl (.tmp 210) (.tmp 219) 98 rfl 157 ti 4 Tryz.underlying98 hi hz1 gb 0 m 26 e210
   ⟨W3.heap.size,0,none⟩ 1 1 [.int .i64 kind, .int .i64 depth, .slice b n c, .int .i64 0] e219 rfl hnew hone (by omega) hsp hK
  rw[if_pos hw14] at this
  exact this
 have hd14:(zg[14]?.getD default).dst=some 220:=by kernel_rfl
 rw[hd14,zdl]
 have hS5:SN N depth kind ((((W4.setCell ⟨gb,m*4,none⟩ (.int .i64 kind)).setCell ⟨gb,m*4+1,none⟩ (.int .i64 depth)).setCell ⟨gb,m*4+2,none⟩ (.slice b n c)).setCell ⟨gb,m*4+3,none⟩ (.int .i64 0)):=by
  unfold SN at hSN⊢
  simp[go_sem,hSN,hNg]
 have hfr:(((((W4.setCell ⟨gb,m*4,none⟩ (.int .i64 kind)).setCell ⟨gb,m*4+1,none⟩ (.int .i64 depth)).setCell ⟨gb,m*4+2,none⟩ (.slice b n c)).setCell ⟨gb,m*4+3,none⟩ (.int .i64 0))).frozen? ⟨r,0,none⟩=false:=by
  have:=hM4.fs 0
  simp[go_sem,this]
 have hcr:(((((W4.setCell ⟨gb,m*4,none⟩ (.int .i64 kind)).setCell ⟨gb,m*4+1,none⟩ (.int .i64 depth)).setCell ⟨gb,m*4+2,none⟩ (.slice b n c)).setCell ⟨gb,m*4+3,none⟩ (.int .i64 0))).cell? ⟨r,0,none⟩=some (.slice (some ⟨gb,0,none⟩) m 26):=by
  have:=hM4.c0
  have:=hM4.ne
  rw[hl] at*
  simp[go_sem, *]
 have hp:=hM4.push hl (by omega) kind depth 0 hw4
 have ap:=((((a4.set (a:=⟨gb,m*4,none⟩) (.inr rfl) (.int .i64 kind)).set (a:=⟨gb,m*4+1,none⟩) (.inr rfl) (.int .i64 depth)).set (a:=⟨gb,m*4+2,none⟩) (.inr rfl) (.slice b n c)).set (a:=⟨gb,m*4+3,none⟩) (.inr rfl) (.int .i64 0)).set (a:=⟨r,0,none⟩) (.inl rfl) (.slice (some ⟨gb,0,none⟩) (m+1:Nat) 26)
 generalize (((W4.setCell ⟨gb,m*4,none⟩ (.int .i64 kind)).setCell ⟨gb,m*4+1,none⟩ (.int .i64 depth)).setCell ⟨gb,m*4+2,none⟩ (.slice b n c)).setCell ⟨gb,m*4+3,none⟩ (.int .i64 0)=W5 at hS5 hfr hcr hp ap⊢
 refine⟨hS5,?_⟩
 have hE1:=hE.put 220 (.slice (some ⟨gb,0,none⟩) (m+1) 26) (by omega) (hl2 _ (.inl rfl))
 generalize a.put (some 220) (.slice (some ⟨gb,0,none⟩) (m+1) 26)=a1 at hE1⊢
 refine hstep (i:=15) (o:=_) r15 rfl rfl ?_
 have e1:=hE1.get _ _ (List.mem_cons_of_mem _ m206)
 have run15:(execOp a1.eval (zg[15]?.getD default)).run Tryz.prog W5= .ok (.value (.pointer (some ⟨r,0,none⟩))) W5:=by
  generalize a1.eval=ρ at e1⊢
  simp only[zg,zZ,yj,zF,st0,seqL,seqR,zo,Tryz.f51,Option.getD_some]
  simp[execOp,e1]
 show Oper.wp Tryz.prog (zg[15]?.getD default) a1 W5 _ Q
 unfold Oper.wp
 rw[run15]
 refine⟨hS5,?_⟩
 have hE2:=hE1.put 221 (.pointer (some ⟨r,0,none⟩)) (by omega) (by rw[List.map_cons,List.contains_cons,hl2 221 (.inr (.inl rfl))];rfl)
 show wpAnyH Tryz.prog .any zg Q (SN N depth kind) 2 _ (a1.put (some 221) (.pointer (some ⟨r,0,none⟩))) W5
 generalize a1.put (some 221) (.pointer (some ⟨r,0,none⟩))=a2 at hE2⊢
 refine hstep (i:=16) (o:=_) r16 rfl rfl ?_
 have e2:=hE2.get 221 _ (List.mem_cons_self ..)
 have run16:(execOp a2.eval (zg[16]?.getD default)).run Tryz.prog W5= .ok (.value (.pointer (some ⟨r,0,none⟩))) W5:=by
  generalize a2.eval=ρ at e2⊢
  simp only[zg,zZ,yj,zF,st0,seqL,seqR,zo,Tryz.f51,Option.getD_some]
  simp[execOp,e2,go_sem]
 show Oper.wp Tryz.prog (zg[16]?.getD default) a2 W5 _ Q
 unfold Oper.wp
 rw[run16]
 refine⟨hS5,?_⟩
 have hE3:=hE2.put 222 (.pointer (some ⟨r,0,none⟩)) (by omega) (by rw[List.map_cons,List.contains_cons,List.map_cons,List.contains_cons,hl2 222 (.inr (.inr rfl))];rfl)
 show wpAnyH Tryz.prog .any zg Q (SN N depth kind) 1 _ (a2.put (some 222) (.pointer (some ⟨r,0,none⟩))) W5
 generalize a2.put (some 222) (.pointer (some ⟨r,0,none⟩))=a3 at hE3⊢
 refine hstep (i:=17) (o:=_) r17 rfl rfl ?_
 have e3:=hE3.get 222 _ (List.mem_cons_self ..)
 have e4:=hE3.get 220 (.slice (some ⟨gb,0,none⟩) (m+1) 26) (by simp)
 have run17:(execOp a3.eval (zg[17]?.getD default)).run Tryz.prog W5= .ok .skip (W5.setCell ⟨r,0,none⟩ (.slice (some ⟨gb,0,none⟩) (m+1) 26)):=by
  generalize a3.eval=ρ at e3 e4⊢
  simp only[zg,zZ,yj,zF,st0,seqL,seqR,zo,Tryz.f51,Option.getD_some]
  simp[execOp,e3,e4,go_sem,hcr,hfr]
 show Oper.wp Tryz.prog (zg[17]?.getD default) a3 W5 _ Q
 unfold Oper.wp
 rw[run17]
 refine⟨?_,r18,hQ _ _ hE3.size hE3.defers hp ap⟩
 unfold SN at hS5⊢
 simp[go_sem,hS5,hNr]
theorem zd6(hQ:AppK w B r gb o2 h' kind depth D Q)(hPQ:∀(d:Option Tmp) (v:Value) (c:List PanicEntry) (a:Act) (w:World),Q (.panic c) (a.put d v) w->Q (.panic c) a w)(hm:m<=24)(hl:o2.length=m)(hNr:N≠r)(hNg:N≠gb)(hM:ShM w B r gb o2 h')(hS:SN N depth kind w)
 (a:Act) (hE:Ev D 223 a [(0, .pointer (some ⟨r,0,none⟩)),(3, .pointer (some ⟨N,0,none⟩))]):(seqL zZ).wp Tryz.prog Q a w:=by
 obtain⟨id,hid⟩:=zgX
 rw[hid]
 have hsz:zg.size=18:=by kernel_rfl
 refine wp_region_held_drew (S:=SN N depth kind) (by kernel_rfl) hS fun hS=>?_
 have HM:ShM w.drew B r gb o2 h':=hM.drewN 1
 have c0:=HM.c0
 rw[hl] at c0
 have hrl:=HM.s.lt
 have hgl:gb<w.drew.heap.size:=by obtain⟨F,h1,_⟩:=HM.row;exact h1.lt
 have hNl:N<w.drew.heap.size:=World.block_lt_of_cell? w.drew ⟨N,0,none⟩ hS.1
 have kW:Kin w w.drew:=(Kin.refl w).drewN 1
 generalize w.drew=W at HM c0 hrl hgl hNl hS kW⊢
 rw[hsz]
 have g0_0:=hE.get 0 (.pointer (some ⟨r,0,none⟩)) (by simp)
 have y0:∀w',SN N depth kind w'->(execOp a.eval (zg[0]?.getD default)).run Tryz.prog w'= .ok (.value (.pointer (some ⟨r,0,none⟩))) w':=fun w' hw'=>by
  generalize a.eval=ρ at g0_0⊢
  simp only[zg,zZ,yj,zF,st0,seqL,seqR,zo,Tryz.f51,Option.getD_some]
  unfold SN at hw'
  simp[execOp,g0_0,go_sem,hw']
 refine wpAnyH_take (i:=0) (oi:=_) (v:= .pointer (some ⟨r,0,none⟩)) rfl (by kernel_rfl) (by kernel_rfl) (by kernel_rfl) (fun c a w'=>hPQ _ _ c a w') (.inl ⟨rfl,y0⟩) hS ?_
 have hE1':=hE.put 206 (.pointer (some ⟨r,0,none⟩)) (by decide) rfl
 change wpAnyH Tryz.prog .any zg Q (SN N depth kind) 17 _ (a.put (some 206) (.pointer (some ⟨r,0,none⟩))) W
 generalize a.put (some 206) (.pointer (some ⟨r,0,none⟩))=a1 at hE1'⊢
 clear y0 g0_0
 have g1_0:=hE1'.get 0 (.pointer (some ⟨r,0,none⟩)) (by simp)
 have y1:∀w',SN N depth kind w'->(execOp a1.eval (zg[1]?.getD default)).run Tryz.prog w'= .ok (.value (.pointer (some ⟨r,0,none⟩))) w':=fun w' hw'=>by
  generalize a1.eval=ρ at g1_0⊢
  simp only[zg,zZ,yj,zF,st0,seqL,seqR,zo,Tryz.f51,Option.getD_some]
  unfold SN at hw'
  simp[execOp,g1_0,go_sem,hw']
 refine wpAnyH_take (i:=1) (oi:=_) (v:= .pointer (some ⟨r,0,none⟩)) rfl (by kernel_rfl) (by kernel_rfl) (by kernel_rfl) (fun c a w'=>hPQ _ _ c a w') (.inl ⟨rfl,y1⟩) hS ?_
 have hE2':=hE1'.put 207 (.pointer (some ⟨r,0,none⟩)) (by decide) rfl
 change wpAnyH Tryz.prog .any zg Q (SN N depth kind) 16 _ (a1.put (some 207) (.pointer (some ⟨r,0,none⟩))) W
 generalize a1.put (some 207) (.pointer (some ⟨r,0,none⟩))=a2 at hE2'⊢
 clear y1 g1_0
 have g2_207:=hE2'.get 207 (.pointer (some ⟨r,0,none⟩)) (by simp)
 have y2:∀w',SN N depth kind w'->(execOp a2.eval (zg[2]?.getD default)).run Tryz.prog w'= .ok (.value (.pointer (some ⟨r,0,none⟩))) w':=fun w' hw'=>by
  generalize a2.eval=ρ at g2_207⊢
  simp only[zg,zZ,yj,zF,st0,seqL,seqR,zo,Tryz.f51,Option.getD_some]
  unfold SN at hw'
  simp[execOp,g2_207,go_sem,hw']
 refine wpAnyH_take (i:=2) (oi:=_) (v:= .pointer (some ⟨r,0,none⟩)) rfl (by kernel_rfl) (by kernel_rfl) (by kernel_rfl) (fun c a w'=>hPQ _ _ c a w') (.inl ⟨rfl,y2⟩) hS ?_
 have hE3':=hE2'.put 208 (.pointer (some ⟨r,0,none⟩)) (by decide) rfl
 change wpAnyH Tryz.prog .any zg Q (SN N depth kind) 15 _ (a2.put (some 208) (.pointer (some ⟨r,0,none⟩))) W
 generalize a2.put (some 208) (.pointer (some ⟨r,0,none⟩))=a3 at hE3'⊢
 clear y2 g2_207
 have g3_208:=hE3'.get 208 (.pointer (some ⟨r,0,none⟩)) (by simp)
 have y3:∀w',SN N depth kind w'->(execOp a3.eval (zg[3]?.getD default)).run Tryz.prog w'= .ok (.value (.pointer (some ⟨r,0,none⟩))) w':=fun w' hw'=>by
  generalize a3.eval=ρ at g3_208⊢
  simp only[zg,zZ,yj,zF,st0,seqL,seqR,zo,Tryz.f51,Option.getD_some]
  unfold SN at hw'
  simp[execOp,g3_208,go_sem,hw']
 refine wpAnyH_take (i:=3) (oi:=_) (v:= .pointer (some ⟨r,0,none⟩)) rfl (by kernel_rfl) (by kernel_rfl) (by kernel_rfl) (fun c a w'=>hPQ _ _ c a w') (.inl ⟨rfl,y3⟩) hS ?_
 have hE4':=hE3'.put 209 (.pointer (some ⟨r,0,none⟩)) (by decide) rfl
 change wpAnyH Tryz.prog .any zg Q (SN N depth kind) 14 _ (a3.put (some 209) (.pointer (some ⟨r,0,none⟩))) W
 generalize a3.put (some 209) (.pointer (some ⟨r,0,none⟩))=a4 at hE4'⊢
 clear y3 g3_208
 have g5_3:=hE4'.get 3 (.pointer (some ⟨N,0,none⟩)) (by simp)
 have y5:∀w',SN N depth kind w'->(execOp a4.eval (zg[5]?.getD default)).run Tryz.prog w'= .ok (.value (.pointer (some ⟨N,1,none⟩))) w':=fun w' hw'=>by
  generalize a4.eval=ρ at g5_3⊢
  simp only[zg,zZ,yj,zF,st0,seqL,seqR,zo,Tryz.f51,Option.getD_some]
  unfold SN at hw'
  simp[execOp,g5_3,go_sem,hw']
 refine wpAnyH_take (i:=5) (oi:=_) (v:= .pointer (some ⟨N,1,none⟩)) rfl (by kernel_rfl) (by kernel_rfl) (by kernel_rfl) (fun c a w'=>hPQ _ _ c a w') (.inl ⟨rfl,y5⟩) hS ?_
 have hE5':=hE4'.put 211 (.pointer (some ⟨N,1,none⟩)) (by decide) rfl
 change wpAnyH Tryz.prog .any zg Q (SN N depth kind) 13 _ (a4.put (some 211) (.pointer (some ⟨N,1,none⟩))) W
 generalize a4.put (some 211) (.pointer (some ⟨N,1,none⟩))=a5 at hE5'⊢
 clear y5 g5_3
 have g6_211:=hE5'.get 211 (.pointer (some ⟨N,1,none⟩)) (by simp)
 have y6:∀w',SN N depth kind w'->(execOp a5.eval (zg[6]?.getD default)).run Tryz.prog w'= .ok (.value (.int .i64 kind)) w':=fun w' hw'=>by
  generalize a5.eval=ρ at g6_211⊢
  simp only[zg,zZ,yj,zF,st0,seqL,seqR,zo,Tryz.f51,Option.getD_some]
  unfold SN at hw'
  simp[execOp,g6_211,go_sem,hw']
 refine wpAnyH_take (i:=6) (oi:=_) (v:= .int .i64 kind) rfl (by kernel_rfl) (by kernel_rfl) (by kernel_rfl) (fun c a w'=>hPQ _ _ c a w') (.inl ⟨rfl,y6⟩) hS ?_
 have hE6':=hE5'.put 212 (.int .i64 kind) (by decide) rfl
 change wpAnyH Tryz.prog .any zg Q (SN N depth kind) 12 _ (a5.put (some 212) (.int .i64 kind)) W
 generalize a5.put (some 212) (.int .i64 kind)=a6 at hE6'⊢
 clear y6 g6_211
 have g7_3:=hE6'.get 3 (.pointer (some ⟨N,0,none⟩)) (by simp)
 have y7:∀w',SN N depth kind w'->(execOp a6.eval (zg[7]?.getD default)).run Tryz.prog w'= .ok (.value (.pointer (some ⟨N,0,none⟩))) w':=fun w' hw'=>by
  generalize a6.eval=ρ at g7_3⊢
  simp only[zg,zZ,yj,zF,st0,seqL,seqR,zo,Tryz.f51,Option.getD_some]
  unfold SN at hw'
  simp[execOp,g7_3,go_sem,hw']
 refine wpAnyH_take (i:=7) (oi:=_) (v:= .pointer (some ⟨N,0,none⟩)) rfl (by kernel_rfl) (by kernel_rfl) (by kernel_rfl) (fun c a w'=>hPQ _ _ c a w') (.inl ⟨rfl,y7⟩) hS ?_
 have hE7':=hE6'.put 213 (.pointer (some ⟨N,0,none⟩)) (by decide) rfl
 change wpAnyH Tryz.prog .any zg Q (SN N depth kind) 11 _ (a6.put (some 213) (.pointer (some ⟨N,0,none⟩))) W
 generalize a6.put (some 213) (.pointer (some ⟨N,0,none⟩))=a7 at hE7'⊢
 clear y7 g7_3
 have g8_213:=hE7'.get 213 (.pointer (some ⟨N,0,none⟩)) (by simp)
 have y8:∀w',SN N depth kind w'->(execOp a7.eval (zg[8]?.getD default)).run Tryz.prog w'= .ok (.value (.int .i64 depth)) w':=fun w' hw'=>by
  generalize a7.eval=ρ at g8_213⊢
  simp only[zg,zZ,yj,zF,st0,seqL,seqR,zo,Tryz.f51,Option.getD_some]
  unfold SN at hw'
  simp[execOp,g8_213,go_sem,hw']
 refine wpAnyH_take (i:=8) (oi:=_) (v:= .int .i64 depth) rfl (by kernel_rfl) (by kernel_rfl) (by kernel_rfl) (fun c a w'=>hPQ _ _ c a w') (.inl ⟨rfl,y8⟩) hS ?_
 have hE8':=hE7'.put 214 (.int .i64 depth) (by decide) rfl
 change wpAnyH Tryz.prog .any zg Q (SN N depth kind) 10 _ (a7.put (some 214) (.int .i64 depth)) W
 generalize a7.put (some 214) (.int .i64 depth)=a8 at hE8'⊢
 clear y8 g8_213
 have g9_3:=hE8'.get 3 (.pointer (some ⟨N,0,none⟩)) (by simp)
 have y9:∀w',SN N depth kind w'->(execOp a8.eval (zg[9]?.getD default)).run Tryz.prog w'= .ok (.value (.pointer (some ⟨N,1,none⟩))) w':=fun w' hw'=>by
  generalize a8.eval=ρ at g9_3⊢
  simp only[zg,zZ,yj,zF,st0,seqL,seqR,zo,Tryz.f51,Option.getD_some]
  unfold SN at hw'
  simp[execOp,g9_3,go_sem,hw']
 refine wpAnyH_take (i:=9) (oi:=_) (v:= .pointer (some ⟨N,1,none⟩)) rfl (by kernel_rfl) (by kernel_rfl) (by kernel_rfl) (fun c a w'=>hPQ _ _ c a w') (.inl ⟨rfl,y9⟩) hS ?_
 have hE9':=hE8'.put 215 (.pointer (some ⟨N,1,none⟩)) (by decide) rfl
 change wpAnyH Tryz.prog .any zg Q (SN N depth kind) 9 _ (a8.put (some 215) (.pointer (some ⟨N,1,none⟩))) W
 generalize a8.put (some 215) (.pointer (some ⟨N,1,none⟩))=a9 at hE9'⊢
 clear y9 g9_3
 have g10_215:=hE9'.get 215 (.pointer (some ⟨N,1,none⟩)) (by simp)
 have y10:∀w',SN N depth kind w'->(execOp a9.eval (zg[10]?.getD default)).run Tryz.prog w'= .ok (.value (.int .i64 kind)) w':=fun w' hw'=>by
  generalize a9.eval=ρ at g10_215⊢
  simp only[zg,zZ,yj,zF,st0,seqL,seqR,zo,Tryz.f51,Option.getD_some]
  unfold SN at hw'
  simp[execOp,g10_215,go_sem,hw']
 refine wpAnyH_take (i:=10) (oi:=_) (v:= .int .i64 kind) rfl (by kernel_rfl) (by kernel_rfl) (by kernel_rfl) (fun c a w'=>hPQ _ _ c a w') (.inl ⟨rfl,y10⟩) hS ?_
 have hE10':=hE9'.put 216 (.int .i64 kind) (by decide) rfl
 change wpAnyH Tryz.prog .any zg Q (SN N depth kind) 8 _ (a9.put (some 216) (.int .i64 kind)) W
 generalize a9.put (some 216) (.int .i64 kind)=a10 at hE10'⊢
 clear y10 g10_215
 have load4:∀(a:Act) (w':World) (K:Act->World->Prop),a.eval (.tmp 209)= .pointer (some ⟨r,0,none⟩)->w'.cell? ⟨r,0,none⟩=some (.slice (some ⟨gb,0,none⟩) m 26)->K (a.put (some 210) (.slice (some ⟨gb,0,none⟩) m 26)) w'->Oper.wp Tryz.prog (zg[4]?.getD default) a w' K Q:=by
  intro a w' K e hc hK
  have hrun:(execOp a.eval (zg[4]?.getD default)).run Tryz.prog w'= .ok (.value (.slice (some ⟨gb,0,none⟩) m 26)) w':=by
   generalize a.eval=ρ at e⊢
   simp only[zg,zZ,yj,zF,st0,seqL,seqR,zo,Tryz.f51,Option.getD_some]
   simp[execOp,e,go_sem,hc]
  unfold Oper.wp
  rw[hrun]
  exact hK
 have call11:∀(a:Act) (w':World) (K:Act->World->Prop),a.eval (.tmp 216)= .int .i64 kind->(∀b n c w3,Kin w' w3->(∀r gb,r<w'.heap.size->gb<w'.heap.size->zR w3 r gb (.slice b n c) (zx kind))->K (a.put (some 217) (.slice b n c)) w3)->Oper.wp Tryz.prog (zg[11]?.getD default) a w' K Q:=by
  intro a w' K e hK
  unfold Oper.wp
  rw[run_callf Tryz.func99 (by kernel_rfl) (by kernel_rfl) (o:=(zg[11]?.getD default)) (ags:= #[.tmp 216]) (ts:= #[47]) (by kernel_rfl) a w']
  have hm:(#[Operand.tmp 216].map a.eval)= #[.int .i64 kind]:=by simp[e]
  rw[hm]
  refine Calls.mono (zev kind w') ?_
  rintro e w3 ⟨b,n,c,rfl,k3,hw⟩
  exact hK b n c w3 k3 hw
 have build12:∀(a:Act) (w':World) (K:Act->World->Prop) (b:Option Addr) (n c:Nat),a.eval (.tmp 212)= .int .i64 kind->a.eval (.tmp 214)= .int .i64 depth->a.eval (.tmp 217)= .slice b n c->K (a.put (some 218) (.agg #[.int .i64 kind, .int .i64 depth, .slice b n c, .int .i64 0])) w'->Oper.wp Tryz.prog (zg[12]?.getD default) a w' K Q:=by
  intro a w' K b n c e1 e2 e3 hK
  have hrun:(execOp a.eval (zg[12]?.getD default)).run Tryz.prog w'= .ok (.value (.agg #[.int .i64 kind, .int .i64 depth, .slice b n c, .int .i64 0])) w':=by
   generalize a.eval=ρ at e1 e2 e3⊢
   simp only[zg,zZ,yj,zF,st0,seqL,seqR,zo,Tryz.f51,Option.getD_some]
   simp[execOp,e1,e2,e3,go_sem]
  unfold Oper.wp
  rw[hrun]
  exact hK
 have slice13:∀(a:Act) (w':World) (K:Act->World->Prop) (b:Option Addr) (n c:Nat),a.eval (.tmp 218)= .agg #[.int .i64 kind, .int .i64 depth, .slice b n c, .int .i64 0]->K (a.put (some 219) (.slice (some ⟨w'.heap.size,0,none⟩) 1 1)) (w'.alloc (.cells #[.int .i64 kind, .int .i64 depth, .slice b n c, .int .i64 0] 157))->Oper.wp Tryz.prog (zg[13]?.getD default) a w' K Q:=by
  intro a w' K b n c e1 hK
  have hrun:(execOp a.eval (zg[13]?.getD default)).run Tryz.prog w'= .ok (.value (.slice (some ⟨w'.heap.size,0,none⟩) 1 1)) (w'.alloc (.cells #[.int .i64 kind, .int .i64 depth, .slice b n c, .int .i64 0] 157)):=by
   generalize a.eval=ρ at e1⊢
   simp only[zg,zZ,yj,zF,st0,seqL,seqR,zo,Tryz.f51,Option.getD_some]
   simp[execOp,e1,go_sem]
  unfold Oper.wp
  rw[hrun]
  exact hK
 have hSk:∀w',Kin W w'->SN N depth kind w':=fun w' k=>⟨(k.cell hNl).trans hS.1,(k.cell hNl).trans hS.2⟩
 have hck:∀w',Kin W w'->w'.cell? ⟨r,0,none⟩=some (.slice (some ⟨gb,0,none⟩) m 26):=fun w' k=>(k.cell hrl).trans c0
 refine za8 (i:=4) (j:=11) (o:=_) (p:=_) (by kernel_rfl) rfl rfl rfl rfl ?_ ?_
 ·refine load4 a10 W _ (hE10'.get 209 _ (by simp)) c0 ⟨hS,?_⟩
  have f1:=hE10'.put 210 (.slice (some ⟨gb,0,none⟩) m 26) (by decide) rfl
  generalize a10.put (some 210) (.slice (some ⟨gb,0,none⟩) m 26)=b1 at f1⊢
  refine hstep (i:=11) (o:=_) (by kernel_rfl) rfl rfl ?_
  refine call11 b1 W _ (f1.get 216 _ (by simp)) fun b n c w3 k3 hw=>⟨hSk w3 k3,?_⟩
  have f2:=f1.put 217 (.slice b n c) (by decide) rfl
  generalize b1.put (some 217) (.slice b n c)=b2 at f2⊢
  refine hstep (i:=12) (o:=_) (by kernel_rfl) rfl rfl ?_
  refine build12 b2 w3 _ b n c (f2.get 212 _ (by simp)) (f2.get 214 _ (by simp)) (f2.get 217 _ (by simp)) ⟨hSk w3 k3,?_⟩
  have f3:=f2.put 218 (.agg #[.int .i64 kind, .int .i64 depth, .slice b n c, .int .i64 0]) (by decide) rfl
  generalize b2.put (some 218) (.agg #[.int .i64 kind, .int .i64 depth, .slice b n c, .int .i64 0])=b3 at f3⊢
  refine hstep (i:=13) (o:=_) (by kernel_rfl) rfl rfl ?_
  refine slice13 b3 w3 _ b n c (f3.get 218 _ (by simp)) ⟨hSk _ (k3.alloc _),?_⟩
  have f4:=f3.put 219 (.slice (some ⟨w3.heap.size,0,none⟩) 1 1) (by decide) rfl
  generalize b3.put (some 219) (.slice (some ⟨w3.heap.size,0,none⟩) 1 1)=b4 at f4⊢
  exact um hQ hm hl hNr hNg _ (by kernel_rfl) (by kernel_rfl) (by kernel_rfl) (by kernel_rfl) (by kernel_rfl) b4 _ f4 w3 (kW.trans k3) hM b n c (hw r gb hrl hgl) (hSk w3 k3) (by simp) (by simp) (by simp) (by rintro k (rfl|rfl|rfl)<;>rfl)
 ·refine call11 a10 W _ (hE10'.get 216 _ (by simp)) fun b n c w3 k3 hw=>⟨hSk w3 k3,?_⟩
  have f1:=hE10'.put 217 (.slice b n c) (by decide) rfl
  generalize a10.put (some 217) (.slice b n c)=b1 at f1⊢
  refine za8 (i:=4) (j:=12) (o:=_) (p:=_) (by kernel_rfl) rfl rfl rfl rfl ?_ ?_
  ·refine load4 b1 w3 _ (f1.get 209 _ (by simp)) (hck w3 k3) ⟨hSk w3 k3,?_⟩
   have f2:=f1.put 210 (.slice (some ⟨gb,0,none⟩) m 26) (by decide) rfl
   generalize b1.put (some 210) (.slice (some ⟨gb,0,none⟩) m 26)=b2 at f2⊢
   refine hstep (i:=12) (o:=_) (by kernel_rfl) rfl rfl ?_
   refine build12 b2 w3 _ b n c (f2.get 212 _ (by simp)) (f2.get 214 _ (by simp)) (f2.get 217 _ (by simp)) ⟨hSk w3 k3,?_⟩
   have f3:=f2.put 218 (.agg #[.int .i64 kind, .int .i64 depth, .slice b n c, .int .i64 0]) (by decide) rfl
   generalize b2.put (some 218) (.agg #[.int .i64 kind, .int .i64 depth, .slice b n c, .int .i64 0])=b3 at f3⊢
   refine hstep (i:=13) (o:=_) (by kernel_rfl) rfl rfl ?_
   refine slice13 b3 w3 _ b n c (f3.get 218 _ (by simp)) ⟨hSk _ (k3.alloc _),?_⟩
   have f4:=f3.put 219 (.slice (some ⟨w3.heap.size,0,none⟩) 1 1) (by decide) rfl
   generalize b3.put (some 219) (.slice (some ⟨w3.heap.size,0,none⟩) 1 1)=b4 at f4⊢
   exact um hQ hm hl hNr hNg _ (by kernel_rfl) (by kernel_rfl) (by kernel_rfl) (by kernel_rfl) (by kernel_rfl) b4 _ f4 w3 (kW.trans k3) hM b n c (hw r gb hrl hgl) (hSk w3 k3) (by simp) (by simp) (by simp) (by rintro k (rfl|rfl|rfl)<;>rfl)
  ·refine build12 b1 w3 _ b n c (f1.get 212 _ (by simp)) (f1.get 214 _ (by simp)) (f1.get 217 _ (by simp)) ⟨hSk w3 k3,?_⟩
   have f2:=f1.put 218 (.agg #[.int .i64 kind, .int .i64 depth, .slice b n c, .int .i64 0]) (by decide) rfl
   generalize b1.put (some 218) (.agg #[.int .i64 kind, .int .i64 depth, .slice b n c, .int .i64 0])=b2 at f2⊢
   refine za8 (i:=4) (j:=13) (o:=_) (p:=_) (by kernel_rfl) rfl rfl rfl rfl ?_ ?_
   ·refine load4 b2 w3 _ (f2.get 209 _ (by simp)) (hck w3 k3) ⟨hSk w3 k3,?_⟩
    have f3:=f2.put 210 (.slice (some ⟨gb,0,none⟩) m 26) (by decide) rfl
    generalize b2.put (some 210) (.slice (some ⟨gb,0,none⟩) m 26)=b3 at f3⊢
    refine hstep (i:=13) (o:=_) (by kernel_rfl) rfl rfl ?_
    refine slice13 b3 w3 _ b n c (f3.get 218 _ (by simp)) ⟨hSk _ (k3.alloc _),?_⟩
    have f4:=f3.put 219 (.slice (some ⟨w3.heap.size,0,none⟩) 1 1) (by decide) rfl
    generalize b3.put (some 219) (.slice (some ⟨w3.heap.size,0,none⟩) 1 1)=b4 at f4⊢
    exact um hQ hm hl hNr hNg _ (by kernel_rfl) (by kernel_rfl) (by kernel_rfl) (by kernel_rfl) (by kernel_rfl) b4 _ f4 w3 (kW.trans k3) hM b n c (hw r gb hrl hgl) (hSk w3 k3) (by simp) (by simp) (by simp) (by rintro k (rfl|rfl|rfl)<;>rfl)
   ·refine slice13 b2 w3 _ b n c (f2.get 218 _ (by simp)) ⟨hSk _ (k3.alloc _),?_⟩
    have f3:=f2.put 219 (.slice (some ⟨w3.heap.size,0,none⟩) 1 1) (by decide) rfl
    generalize b2.put (some 219) (.slice (some ⟨w3.heap.size,0,none⟩) 1 1)=b3 at f3⊢
    refine hstep (i:=4) (o:=_) (by kernel_rfl) rfl rfl ?_
    refine load4 b3 _ _ (f3.get 209 _ (by simp)) (hck _ (k3.alloc _)) ⟨hSk _ (k3.alloc _),?_⟩
    have f4:=f3.put 210 (.slice (some ⟨gb,0,none⟩) m 26) (by decide) rfl
    generalize b3.put (some 210) (.slice (some ⟨gb,0,none⟩) m 26)=b4 at f4⊢
    exact um hQ hm hl hNr hNg _ (by kernel_rfl) (by kernel_rfl) (by kernel_rfl) (by kernel_rfl) (by kernel_rfl) b4 _ f4 w3 (kW.trans k3) hM b n c (hw r gb hrl hgl) (hSk w3 k3) (by simp) (by simp) (by simp) (by rintro k (rfl|rfl|rfl)<;>rfl)
end
end Go.Proofs.YtonmcakdofbjiaaGreatDoor
