/- A part. -/
import Derived.Test.YtonmcakdofbjiaaGreatDoorM10
import Derived.Test.YtonmcakdofbjiaaGreatDoorM12
import Derived.Test.YtonmcakdofbjiaaGreatDoorM13
import Derived.OwnWalk
import Derived.Conc.TokenWalk
import Derived.Test.YtonmcakdofbjiaaGreatDoorM4
import Derived.Test.YtonmcakdofbjiaaGreatDoorRows
import Derived.Conc.LeavingOf
import Derived.Conc.Holds
import Derived.SevenTiedAt
import Derived.Stop.Joined
import Derived.LaidLaws
import Derived.MakeChecks
import Derived.ProofKit
import Derived.OpenShut
import Derived.LaidMore
import Derived.Lay
import Derived.Deep.QuietTactic
import Derived.BigQuiet
import Derived.Deep.Draws
import Derived.Deep.LoopGhost
set_option linter.all false
set_option maxRecDepth 100000
set_option maxHeartbeats 8000000
namespace Go.Proofs.YtonmcakdofbjiaaGreatDoor
open Go.RowKit Go.Bsd Go.Conc
theorem zfI:SimP Tryz.prog (inF zA) (inG zz) (fun b=>b=true):=by
 refine zbR fun f hf=>?_;simp only[zA,List.mem_cons,List.not_mem_nil,or_false] at hf;rcases hf with rfl|rfl|rfl|rfl|rfl|rfl|rfl|rfl|rfl|rfl|rfl|rfl|rfl|rfl|rfl|rfl|rfl|rfl|rfl|rfl|rfl|rfl|rfl|rfl|rfl|rfl|rfl|rfl|rfl|rfl|rfl|rfl|rfl|rfl|rfl|rfl|rfl|rfl|rfl|rfl
 ·exact⟨_,Tryz.func118,side118⟩
 ·exact⟨_,Tryz.func119,side119⟩
 ·exact⟨_,Tryz.func136,side136⟩
 ·exact⟨_,Tryz.func145,side145⟩
 ·exact⟨_,Tryz.func146,side146⟩
 ·exact⟨_,Tryz.func147,side147⟩
 ·exact⟨_,Tryz.func148,side148⟩
 ·exact⟨_,Tryz.func149,side149⟩
 ·exact⟨_,Tryz.func150,side150⟩
 ·exact⟨_,Tryz.func151,side151⟩
 ·exact⟨_,Tryz.func152,side152⟩
 ·exact⟨_,Tryz.func153,side153⟩
 ·exact⟨_,Tryz.func154,side154⟩
 ·exact⟨_,Tryz.func155,side155⟩
 ·exact⟨_,Tryz.func162,side162⟩
 ·exact⟨_,Tryz.func163,side163⟩
 ·exact⟨_,Tryz.func164,side164⟩
 ·exact⟨_,Tryz.func165,side165⟩
 ·exact⟨_,Tryz.func166,side166⟩
 ·exact⟨_,Tryz.func167,side167⟩
 ·exact⟨_,Tryz.func174,side174⟩
 ·exact⟨_,Tryz.func175,side175⟩
 ·exact⟨_,Tryz.func176,side176⟩
 ·exact⟨_,Tryz.func177,side177⟩
 ·exact⟨_,Tryz.func178,side178⟩
 ·exact⟨_,Tryz.func179,side179⟩
 ·exact⟨_,Tryz.func180,side180⟩
 ·exact⟨_,Tryz.func182,side182⟩
 ·exact⟨_,Tryz.func183,side183⟩
 ·exact⟨_,Tryz.func184,side184⟩
 ·exact⟨_,Tryz.func185,side185⟩
 ·exact⟨_,Tryz.func186,side186⟩
 ·exact⟨_,Tryz.func187,side187⟩
 ·exact⟨_,Tryz.func188,side188⟩
 ·exact⟨_,Tryz.func189,side189⟩
 ·exact⟨_,Tryz.func190,side190⟩
 ·exact⟨_,Tryz.func191,side191⟩
 ·exact⟨_,Tryz.func192,side192⟩
 ·exact⟨_,Tryz.func193,side193⟩
 ·exact⟨_,Tryz.func194,side194⟩
def cutAct(s:ByteArray)(c:Nat):Act:={tmps:= #[.string s, .chan (some c),undef,undef,undef,undef,undef,undef,undef,undef, .chan (some c)]++Array.replicate 35 undef,defers:=[]}
noncomputable def frp(s:ByteArray)(c:Nat):Frame:=(base0 77).at (cutAct s c) [.code yD]
def Xp(s:ByteArray)(f:FuncId)(c:Nat)(W:World)(g:Goroutine)(v:World):Prop:=
 ∃fr,g=Go.Conc.G fr [bottom f c]/\fr.mode= .returning/\fr.defers=[]/\fr.fn=77/\(∀y,y<W.heap.size->y≠c->v.heap[y]? =W.heap[y]?)/\v.heap[c]? =some (.chan ((pieces s).length+1) ((pieces s).map Item.v).toArray false (pieces s).length 0 false)
theorem zhb(s:ByteArray)(f:FuncId)(c:Nat)(W:World):yG (Xp s f c W):=fun g w T d h=>h
theorem ze6(s:ByteArray)(f:FuncId)(c:Nat)(W:World):∀g v,Xp s f c W g v->jE Tryz.prog f c (((pieces s).map Item.v).length+1) ((pieces s).map Item.v) g v:=by
 rintro g v ⟨fr,h1,h2,h3,h4,h5,h6⟩;refine⟨fr,h1,h2,h3,⟨Tryz.f77,by rw[h4];exact Tryz.func77,rfl⟩,fun b n r hb=>?_⟩
 rw[h6] at hb;simp only[Option.some.injEq,Obj.chan.injEq] at hb;rw[<-hb.2.1]
theorem zgk(s:ByteArray)(f:FuncId)(c:Nat)(W:World)(hs:s.size<=8796093022207)(hc:c<W.heap.size)(e1 e2:Value)(h8:W.cell? ⟨8,0,none⟩=some e1)(h9:W.cell? ⟨9,0,none⟩=some e2)(he1:∃te pe,e1= .iface te pe)(he2:∃te pe,e2= .iface te pe)(hc8:c≠8)(hc9:c≠9):
 Lone Tryz.prog (Xp s f c W) (Go.Conc.G (frp s c) [bottom f c]) (put W c (.chan ((pieces s).length+1) #[] false 0 0 false)):=by
 intro T d;have hv:∀y,y≠c->(re (put W c (.chan ((pieces s).length+1) #[] false 0 0 false)) T d).heap[y]? =W.heap[y]? :=fun y hy=>put_ne (Ne.symm hy);have cell:∀y o,y≠c->(re (put W c (.chan ((pieces s).length+1) #[] false 0 0 false)) T d).cell? ⟨y,o,none⟩=W.cell? ⟨y,o,none⟩:=fun y o hy=>by
  unfold World.cell?
  rw[show(⟨y,o,none⟩:Addr).block=y from rfl,hv y hy]
 have hch:(re (put W c (.chan ((pieces s).length+1) #[] false 0 0 false)) T d).heap[c]? =some (.chan ((pieces s).length+1) #[] false 0 0 false):=put_at hc;have hsz:(re (put W c (.chan ((pieces s).length+1) #[] false 0 0 false)) T d).heap.size=W.heap.size:=yv _ _ _;obtain⟨e,a',w',⟨he,hd,ho,hq⟩,harr⟩:=zgj s c ((pieces s).length+1) (re (put W c (.chan ((pieces s).length+1) #[] false 0 0 false)) T d) hs (Nat.lt_succ_self _) e1 e2 ((cell 8 0 (Ne.symm hc8)).trans h8) ((cell 9 0 (Ne.symm hc9)).trans h9) he1 he2 hch (base0 77) [] [bottom f c]
 have ho':∀y,y<W.heap.size->y≠c->w'.heap[y]? =W.heap[y]? :=fun y hy hyc=>(ho y (by rw[hsz];exact hy) hyc).trans (hv y hyc)
 rcases he with rfl|rfl
 ·obtain⟨n,hn⟩:=Steps.trans harr (.one step_end)
  exact⟨n,_,w',hn,rfl,_,rfl,rfl,hd,rfl,ho',hq⟩
 ·obtain⟨todo,n,hn⟩:=harr
  exact⟨n,_,w',hn,rfl,_,rfl,rfl,hd,rfl,ho',hq⟩
noncomputable def tk0:Code:=(Tryz.f40.body.getD .skip)
noncomputable def seqR:Code->Code| .seq _ y=>y|c=>c
noncomputable def seqL:Code->Code| .seq x _=>x|c=>c
noncomputable def zdw:Code->Code| .loop c=>c|c=>c
noncomputable def zbM:Code->Code| .block _ c=>c|c=>c
noncomputable def zw:Code->Array Oper| .region _ o _=>o|_=> #[]
noncomputable def tk2:Code:=seqR (seqR tk0)
noncomputable def tkGo:Code:=seqL (seqR tk2)
noncomputable def tk4:Code:=seqR (seqR tk2)
noncomputable def jf:Code:=zdw (zbM (seqR (seqL (seqR (seqR tk4)))))
noncomputable def vG:Code:=seqR (seqR (seqR tk4))
noncomputable def xM:Code:=seqR jf
theorem zjQ(a:Array Value)(h:a.size=36):∃t0 t1 t2 t3 t4 t5 t6 t7 t8 t9 t10 t11 t12 t13 t14 t15 t16 t17 t18 t19 t20 t21 t22 t23 t24 t25 t26 t27 t28 t29 t30 t31 t32 t33 t34 t35,a= #[t0,t1,t2,t3,t4,t5,t6,t7,t8,t9,t10,t11,t12,t13,t14,t15,t16,t17,t18,t19,t20,t21,t22,t23,t24,t25,t26,t27,t28,t29,t30,t31,t32,t33,t34,t35]:=by
 obtain⟨l⟩:=a
 simp only[List.size_toArray] at h;rcases l with _|⟨t0,_|⟨t1,_|⟨t2,_|⟨t3,_|⟨t4,_|⟨t5,_|⟨t6,_|⟨t7,_|⟨t8,_|⟨t9,_|⟨t10,_|⟨t11,_|⟨t12,_|⟨t13,_|⟨t14,_|⟨t15,_|⟨t16,_|⟨t17,_|⟨t18,_|⟨t19,_|⟨t20,_|⟨t21,_|⟨t22,_|⟨t23,_|⟨t24,_|⟨t25,_|⟨t26,_|⟨t27,_|⟨t28,_|⟨t29,_|⟨t30,_|⟨t31,_|⟨t32,_|⟨t33,_|⟨t34,_|⟨t35,_|⟨u,l⟩⟩⟩⟩⟩⟩⟩⟩⟩⟩⟩⟩⟩⟩⟩⟩⟩⟩⟩⟩⟩⟩⟩⟩⟩⟩⟩⟩⟩⟩⟩⟩⟩⟩⟩⟩⟩<;>first|(simp at h;done)|(simp at h;omega)|exact⟨_,_,_,_,_,_,_,_,_,_,_,_,_,_,_,_,_,_,_,_,_,_,_,_,_,_,_,_,_,_,_,_,_,_,_,_,rfl⟩
structure TokA (s:ByteArray) (c b:Nat) (sl:Value) (a:Act):Prop where
 size:a.tmps.size=36
 s6:a.tmps[6]? =some sl
 s7:a.tmps[7]? =some (.pointer (some ⟨b,0,none⟩))
 s15:a.tmps[15]? =some (.chan (some c))
 defers:a.defers=[]
def zr(l:List Item):List Item:=l.filter fun x=>decide (x.code=0)
def badOf(l:List Item):Int×Int:=l.foldl (fun acc x=>if x.code=0 then acc else (x.code,x.place)) (0,0)
def tokCells(x:Item):List Value:=[.int .i64 x.kind, .string x.text, .int .i64 x.num, .int .i64 x.pos]
def flatToks(l:List Item):List Value:=l.flatMap tokCells
theorem uZ(l:List Item):(flatToks l).length=l.length*4:=by
 induction l with
 |nil=>rfl
 |cons x l ih=>simp only[flatToks,List.flatMap_cons,List.length_append,List.length_cons] at ih⊢;rw[ih];simp[tokCells];omega
theorem zhV:(Tryz.prog.info? 140).map (fun i=>(i.zero,i.size,i.bytes))=some (some (.agg #[.int .i64 0, .string ⟨#[]⟩, .int .i64 0, .int .i64 0]),4,40):=by kernel_rfl
structure TokW (c:Nat) (L:List Item) (m n b:Nat) (sl:Value) (v:World):Prop where
 chan:v.heap[c]? =some (.chan (L.length+1) ((L.drop m).map Item.v).toArray false L.length m false)
 own:v.ownsRow (b+1) 140 4 sl (zr (L.take n)).length (flatToks (zr (L.take n)))
 bad:∃x0 x1 x2 x3,Six v b x0 x1 x2 x3 (.int .i64 (badOf (L.take n)).1) (.int .i64 (badOf (L.take n)).2)
 lt:b<v.heap.size
 ltc:c<b
theorem Six.grown{w w':World}{n:Nat}{row:Option Nat}{x0 x1 x2 x3 x4 x5:Value}(h:Six w n x0 x1 x2 x3 x4 x5)(hg:w.grownBy w' row)(hn:n<w.heap.size)(hr:some n≠row):Six w' n x0 x1 x2 x3 x4 x5:=by
 have hb:=hg.block n hn hr;have hc:∀o,w'.cell? ⟨n,o,none⟩=w.cell? ⟨n,o,none⟩:=fun o=>World.cell?_of_block (a:=⟨n,o,none⟩) hb;have hf:∀o,w'.frozen? ⟨n,o,none⟩=w.frozen? ⟨n,o,none⟩:=fun o=>World.frozen?_of_block (a:=⟨n,o,none⟩) hb;obtain⟨c0,c1,c2,c3,c4,c5,f0,f1,f2,f3,f4,f5⟩:=h
 exact⟨(hc _).trans c0,(hc _).trans c1,(hc _).trans c2,(hc _).trans c3,(hc _).trans c4,(hc _).trans c5,(hf _).trans f0,(hf _).trans f1,(hf _).trans f2,(hf _).trans f3,(hf _).trans f4,(hf _).trans f5⟩
theorem jR{L:List Item}{n:Nat}{x:Item}(hx:L[n]? =some x):L.take (n+1)=L.take n++[x]:=by
 rw[List.take_add_one,hx];rfl
theorem zcS{l:List Item}{x:Item}(h:x.code=0):zr (l++[x])=zr l++[x]:=by simp[zr,h]
theorem zeg{l:List Item}{x:Item}(h:x.code≠0):zr (l++[x])=zr l:=by simp[zr,h]
theorem zeq{l:List Item}{x:Item}(h:x.code=0):badOf (l++[x])=badOf l:=by simp[badOf,h]
theorem zgr{l:List Item}{x:Item}(h:x.code≠0):badOf (l++[x])=(x.code,x.place):=by simp[badOf,h]
theorem grown_trans{w w' w2:World}{row:Option Nat}(h:w.grownBy w' row)(k:w'.grownBy w2 row):w.grownBy w2 row:=
 ⟨k.os.trans h.os,k.tape.trans h.tape,k.output.trans h.output,Nat.le_trans h.size k.size,fun j hj hr=>(k.block j (Nat.lt_of_lt_of_le hj h.size) hr).trans (h.block j hj hr)⟩
theorem zB(w:World)(n o:Nat)(v:Value):w.grownBy (w.setCell ⟨n,o,none⟩ v) (some n):=by
 exact⟨rfl,rfl,rfl,(by simp),fun j _ hr=>Below.heap_setCell _ _ _ j (fun e=>hr (by rw[e]))⟩
theorem zei(l:List Item)(x:Item):flatToks (l++[x])=flatToks l++tokCells x:=by simp[flatToks]
theorem zfe{c:Nat}{L:List Item}{m n b:Nat}{sl:Value}{w:World}{x:Item}(h:TokW c L m n b sl w)(hx:L[n]? =some x)(hcode:x.code≠0)(z0 z1 z2 z3:Value)(o:Obj):
 TokW c L m (n+1) b sl (((((((w.setCell ⟨b,0,none⟩ z0).setCell ⟨b,1,none⟩ z1).setCell ⟨b,2,none⟩ z2).setCell ⟨b,3,none⟩ z3).setCell ⟨b,4,none⟩ (.int .i64 x.code)).setCell ⟨b,5,none⟩ (.int .i64 x.place)).alloc o):=by
 obtain⟨hch,hown,⟨y0,y1,y2,y3,hbad⟩,hlt,hltc⟩:=h
 have hs:=hbad.set z0 z1 z2 z3 (.int .i64 x.code) (.int .i64 x.place);have hg:w.grownBy ((((((w.setCell ⟨b,0,none⟩ z0).setCell ⟨b,1,none⟩ z1).setCell ⟨b,2,none⟩ z2).setCell ⟨b,3,none⟩ z3).setCell ⟨b,4,none⟩ (.int .i64 x.code)).setCell ⟨b,5,none⟩ (.int .i64 x.place)) (some b):=
  grown_trans (grown_trans (grown_trans (grown_trans (grown_trans (zB _ _ _ _) (zB _ _ _ _)) (zB _ _ _ _)) (zB _ _ _ _)) (zB _ _ _ _)) (zB _ _ _ _)
 generalize ((((((w.setCell ⟨b,0,none⟩ z0).setCell ⟨b,1,none⟩ z1).setCell ⟨b,2,none⟩ z2).setCell ⟨b,3,none⟩ z3).setCell ⟨b,4,none⟩ (.int .i64 x.code)).setCell ⟨b,5,none⟩ (.int .i64 x.place))=W at hs hg;have hlt2:b<W.heap.size:=Nat.lt_of_lt_of_le hlt hg.size;have hga:=World.grownBy_alloc W o none;refine⟨?_,?_,?_,by simp;omega,hltc⟩
 ·rw[hga.block c (by omega) (by simp),hg.block c (by omega) (by simp;omega)]
  exact hch
 ·rw[jR hx,zeg hcode];refine World.ownsRow.alloc (hown.kept hg ?_) o;cases hv:sl.ownBlock with
  |none=>exact .inl rfl
  |some k=>right;have:=hown.lt k hv;simp;omega
 ·rw[jR hx,zgr hcode];exact⟨_,_,_,_,hs.grown hga hlt2 (by simp)⟩
theorem zdx{c:Nat}{L:List Item}{m n b:Nat}{sl:Value}{w:World}{x:Item}(h:TokW c L m n b sl w)(hx:L[n]? =some x)(hcode:x.code=0)(o1 o2:Obj){v':Value}{w1:World}
 (hown':w1.ownsRow (b+1) 140 4 v' ((zr (L.take n)).length+1) (flatToks (zr (L.take n))++tokCells x)) (hgrow:((w.alloc o1).alloc o2).grownBy w1 sl.ownBlock):TokW c L m (n+1) b v' w1:=by
 obtain⟨hch,hown,⟨y0,y1,y2,y3,hbad⟩,hlt,hltc⟩:=h
 have h1:=World.grownBy_alloc w o1 sl.ownBlock;have h2:=World.grownBy_alloc (w.alloc o1) o2 sl.ownBlock;have hg:=grown_trans (grown_trans h1 h2) hgrow;have hne:∀y,y<=b->some y≠sl.ownBlock:=by
  intro y hy he;have:=hown.lt y he.symm
  omega
 refine⟨?_,?_,?_,Nat.lt_of_lt_of_le hlt hg.size,hltc⟩
 ·rw[hg.block c (by omega) (hne c (by omega))];exact hch
 ·rw[jR hx,zcS hcode,zei];simpa using hown'
 ·rw[jR hx,zeq hcode];exact⟨_,_,_,_,hbad.grown hg hlt (hne b (Nat.le_refl _))⟩
theorem zfd(s:ByteArray)(c b:Nat)(L:List Item)(n:Nat)(x:Item)(hx:L[n]? =some x)(hL:L.length<=8193)(sl:Value)(w:World)(hw:TokW c L (n+1) n b sl w)(t0 t1 t2 t3 t4 t5 t8 t9 t10 t11 t12 t13 t14 t18 t19 t20 t21 t22 t23 t24 t25 t26 t27 t28 t29 t30 t31 t32 t33 t34 t35:Value):
 xM.wp Tryz.prog (fun e a w'=>e= .normal/\∃sl',TokA s c b sl' a/\TokW c L (n+1) (n+1) b sl' w') {tmps:= #[t0,t1,t2,t3,t4,t5,sl, .pointer (some ⟨b,0,none⟩),t8,t9,t10,t11,t12,t13,t14, .chan (some c), .tuple #[x.v, .bool true], .bool true,t18,t19,t20,t21,t22,t23,t24,t25,t26,t27,t28,t29,t30,t31,t32,t33,t34,t35],defers:=[]} w:=by
 obtain⟨i0,hi,hz0,hz1,hz2⟩:=info_parts zhV
 obtain⟨hch,hown,⟨y0,y1,y2,y3,hbad⟩,hlt,hltc⟩:=hw
 have q0:=hbad.c0;have q1:=hbad.c1;have q2:=hbad.c2;have q3:=hbad.c3;have q4:=hbad.c4;have q5:=hbad.c5;have f0:=hbad.f0;have f1:=hbad.f1;have f2:=hbad.f2;have f3:=hbad.f3;have f4:=hbad.f4;have f5:=hbad.f5;have HB:=Lib.hid hbad;have HO:=Lib.hid hown;have HC:=Lib.hid hch;have HX:=Lib.hid hx;clear hbad hown hch hx;simp only[xM,jf,tk4,tk2,tk0,seqR,seqL,zdw,zbM,Tryz.f40,Option.getD_some,Item.v,itemV];by_cases hcode:x.code=0
 ·have k1:(x.code==0)=true:=by simp[hcode]
  have k2:(x.code !=0)=false:=by simp[hcode]
  have HK:=Lib.hid hcode;clear hcode;have hl4:=uZ (zr (L.take n));have hlg:(zr (L.take n)).length<=8193:=by
   have h1:(zr (L.take n)).length<=(L.take n).length:=List.length_filter_le _ _;have h2:(L.take n).length<=L.length:=by simp;omega
   omega
  go_wp2_with (at_builtin;refine wpList_append_own _ rfl (.tmp 23) (.tmp 26) 80 rfl (b+1) 140 i0 _ 4 40 Tryz.underlying80 hi hz0 hz1 hz2 rfl (by decide) _ _ _ rfl ((HO.out.alloc _).alloc _) ⟨w.heap.size+1,0,none⟩ 1 1 (tokCells x) rfl rfl ?c1 ?c2 ?c3 ?c4 ?c5 ?_)
  case c1=>
   intro j u hj
   match j,hj with
   |0,hj=>simp[tokCells] at hj;subst hj;simp[go_sem,Addr.add]
   |1,hj=>simp[tokCells] at hj;subst hj;simp[go_sem,Addr.add]
   |2,hj=>simp[tokCells] at hj;subst hj;simp[go_sem,Addr.add]
   |3,hj=>simp[tokCells] at hj;subst hj;simp[go_sem,Addr.add]
   |j+4,hj=>simp[tokCells] at hj
  case c2=>intro u hu;simp[tokCells] at hu;rcases hu with rfl|rfl|rfl|rfl<;>rfl
  case c3=>unfold maxLen;omega
  case c4=>omega
  case c5=>simp;omega
  intro v' w1 hown' hgrow _;have HW:TokW c L (n+1) n b sl w:=⟨HC.out,HO.out,⟨y0,y1,y2,y3,HB.out⟩,hlt,hltc⟩;have R:=zdx HW HX.out HK.out _ _ hown' hgrow;clear hown' hgrow hl4 hlg;go_wp2;exact⟨v',⟨rfl,rfl,rfl,rfl,rfl⟩,R⟩
 ·have k1:(x.code==0)=false:=by simp[hcode]
  have k2:(x.code !=0)=true:=by simp[hcode]
  have HK:=Lib.hid hcode;clear hcode;go_wp2;have HW:TokW c L (n+1) n b sl w:=⟨HC.out,HO.out,⟨y0,y1,y2,y3,HB.out⟩,hlt,hltc⟩;exact⟨sl,⟨rfl,rfl,rfl,rfl,rfl⟩,zfe HW HX.out HK.out _ _ _ _ _⟩
def goAct(s:ByteArray)(c:Nat):Act:=
 {tmps:= #[.string s,undef, .slice none 0 0, .int .i64 0, .int .i64 0, .chan (some c),undef,undef,undef, .string s, .int .i64 s.size, .bool false, .chan (some c), .string s, .chan (some c),undef,undef,undef,undef,undef,undef,undef,undef,undef,undef,undef,undef,undef,undef,undef,undef,undef,undef,undef,undef,undef],defers:=[]}
noncomputable def frc(s:ByteArray)(c:Nat):Frame:=(base0 40).at (goAct s c) [.inRegion (zw tkGo) [], .code tk4]
noncomputable def ops8:Array Oper:=zw (seqL jf)
noncomputable def qY:List Go.Item:=[.inLoop jf, .inBlock 0, .code vG]
noncomputable def yI:List Go.Item:= .inRegion ops8 [0,1]:: .code xM::qY
def Xc(s:ByteArray)(f:FuncId)(c:Nat)(g:Goroutine)(v:World):Prop:=
 ∃a b sl,g=Go.Conc.G ((base0 40).at a yI) [bottom f c]/\TokA s c b sl a/\TokW c (pieces s) (pieces s).length (pieces s).length b sl v
theorem qc(a:Act)(n:Nat):a.eval (.tmp n)=a.tmps.getD n undef:=rfl
theorem u136:Tryz.prog.underlying 136=some (.chan .both 142):=by kernel_rfl
theorem zb1:(Tryz.prog.info? 142).map (fun i=>(i.zero,i.size,i.bytes))=some (some (.agg #[.int .i64 0, .string ⟨#[]⟩, .int .i64 0, .int .i64 0, .int .i64 0, .int .i64 0]),6,56):=by kernel_rfl
def zeroItem:Value:= .agg #[.int .i64 0, .string ⟨#[]⟩, .int .i64 0, .int .i64 0, .int .i64 0, .int .i64 0]
theorem vh(s:ByteArray)(c b:Nat)(sl:Value)(a:Act)(cs:List Frame)(ha:TokA s c b sl a)(w:World):
 stepG Tryz.prog true (Go.Conc.G ((base0 40).at a yI) cs) w= .comm (Go.Conc.G ((base0 40).at a yI) cs) #[rcase c zeroItem] true (.recv true) w #[]:=by
 have h15:a.tmps.getD 15 undef= .chan (some c):=by rw[Array.getD_eq_getD_getElem?,ha.s15];rfl
 obtain⟨i0,hi,hz0,hz1,hz2⟩:=info_parts zb1
 unfold yI;rw[stepG_comm (o:={dst:=some 16,op:=Op.recv 136 (Operand.tmp 15) true,type:=0,pos:= "lex.go:119",after:= #[],guard:=none}) (cases:= #[rcase c zeroItem]) (blocking:=true) (shape:= .recv true) (w':=w) rfl rfl (by simp[base0])]
 ·have e:(execOp a.eval {dst:=some 16,op:=Op.recv 136 (Operand.tmp 15) true,type:=0,pos:= "lex.go:119",after:= #[],guard:=none}).events Tryz.prog w #[]= #[]:=by
   unfold execOp;simp only[qc,h15];simp[run_underlying u136,zeroValue,typeInfo,hi,hz0,rcase]
  rw[listed_none e]
 ·unfold execOp;simp only[qc,h15];simp[run_underlying u136,zeroValue,typeInfo,hi,hz0,rcase,zeroItem]
theorem vx(a:Act)(v u:Value)(n:Nat)(w:World)(o:Oper)(ho:o.op= .extract (.tmp n) 1)(h:a.tmps.getD n undef= .tuple #[v,u]):(execOp a.eval o).run Tryz.prog w= .ok (.value u) w:=by
 unfold execOp;rw[ho];simp only[qc,h];rfl
theorem qe{e:Exit}{a a':Act}{w w':World}{fr:Frame}{b:Frame}{k:List Go.Item}{cs:List Frame}(he:e= .normal)(h:Arrives Tryz.prog (lone fr cs w) b k cs e a' w'):Steps Tryz.prog (lone fr cs w) (lone (b.at a' k) cs w'):=by
 subst he;exact h
theorem zff{s:ByteArray}{c b:Nat}{sl:Value}{a:Act}(h:TokA s c b sl a)(v u:Value):TokA s c b sl ((a.put (some 16) v).put (some 17) u):=by
 obtain⟨h1,h2,h3,h4,h5⟩:=h
 refine⟨by simp[Act.put,h1],?_,?_,?_,h5⟩
 ·simp[Act.put,h2]
 ·simp[Act.put,h3]
 ·simp[Act.put,h4]
theorem wY{s:ByteArray}{c b:Nat}{sl:Value}{a:Act}(h:TokA s c b sl a)(v u:Value):∃t0 t1 t2 t3 t4 t5 t8 t9 t10 t11 t12 t13 t14 t18 t19 t20 t21 t22 t23 t24 t25 t26 t27 t28 t29 t30 t31 t32 t33 t34 t35:Value,((a.put (some 16) v).put (some 17) u)={tmps:= #[t0,t1,t2,t3,t4,t5,sl, .pointer (some ⟨b,0,none⟩),t8,t9,t10,t11,t12,t13,t14, .chan (some c),v,u,t18,t19,t20,t21,t22,t23,t24,t25,t26,t27,t28,t29,t30,t31,t32,t33,t34,t35],defers:=[]}:=by
 have h':=zff h v u;obtain⟨t0,t1,t2,t3,t4,t5,t6,t7,t8,t9,t10,t11,t12,t13,t14,t15,t16,t17,t18,t19,t20,t21,t22,t23,t24,t25,t26,t27,t28,t29,t30,t31,t32,t33,t34,t35,e⟩:=zjQ _ h'.size
 have h1:=h'.s6;have h2:=h'.s7;have h3:=h'.s15;have h4:((a.put (some 16) v).put (some 17) u).tmps[16]? =some v:=by simp[Act.put,h.size]
 have h5:((a.put (some 16) v).put (some 17) u).tmps[17]? =some u:=by simp[Act.put,h.size]
 have h6:=h'.defers;rw[e] at h1 h2 h3 h4 h5;simp at h1 h2 h3 h4 h5;refine⟨t0,t1,t2,t3,t4,t5,t8,t9,t10,t11,t12,t13,t14,t18,t19,t20,t21,t22,t23,t24,t25,t26,t27,t28,t29,t30,t31,t32,t33,t34,t35,?_⟩;subst h1;subst h2;subst h3;subst h4;subst h5
 generalize (a.put (some 16) t16).put (some 17) t17=z at e h6;obtain⟨z1,z2⟩:=z
 simp only at e h6
 rw[e,h6]
theorem zfb(s:ByteArray)(c b:Nat)(L:List Item)(n:Nat)(hn:n<L.length)(hL:L.length<=8193)(sl:Value)(a:Act)(w:World)(cs:List Frame)(ha:TokA s c b sl a)(hw:TokW c L n n b sl w):
 ∃a' sl' w',TokA s c b sl' a'/\TokW c L (n+1) (n+1) b sl' w'/\Steps Tryz.prog (lone ((base0 40).at a yI) cs w) (lone ((base0 40).at a' yI) cs w'):=by
 obtain⟨x,hx⟩:∃x,L[n]? =some x:=⟨_,List.getElem?_eq_getElem hn⟩
 have hdrop:L.drop n=x::L.drop (n+1):=by
  have:=List.drop_eq_getElem_cons hn
  rw[List.getElem?_eq_getElem hn] at hx;rw[this,Option.some.inj hx]
 have s1:=step_lone_recv_buf (P:=Tryz.prog) (fr:=(base0 40).at a yI) (cs:=cs) true (vh s c b sl a cs ha w) hw.chan (by rw[hdrop];simp)
 rw[hdrop] at s1;have hg:got true ((((x::L.drop (n+1)).map Item.v).toArray).getD 0 undef) true= .tuple #[x.v, .bool true]:=by simp[got]
 have hb:(((x::L.drop (n+1)).map Item.v).toArray).extract 1 (((x::L.drop (n+1)).map Item.v).toArray).size=((L.drop (n+1)).map Item.v).toArray:=by
  simp;exact List.take_of_length_le (by simp)
 rw[hg,hb] at s1;have hfin:((base0 40).at a yI).finish (.tuple #[x.v, .bool true])=(base0 40).at (a.put (some 16) (.tuple #[x.v, .bool true])) (.inRegion ops8 [1]:: .code xM::qY):=by
  unfold yI;rw[Frame.finish_at];rfl
 rw[hfin] at s1;have s2:=x6 (P:=Tryz.prog) (b:=base0 40) (a:=a.put (some 16) (.tuple #[x.v, .bool true])) (k:= .code xM::qY) (cs:=cs) (ops:=ops8) (i:=1) (rest:=[]) (w:=w.setChan c (L.length+1) ((L.drop (n+1)).map Item.v).toArray false L.length (n+1) false) (w':=w.setChan c (L.length+1) ((L.drop (n+1)).map Item.v).toArray false L.length (n+1) false) (v:= .bool true)
  (o:={dst:=some 17,op:=Op.extract (Operand.tmp 16) 1,type:=4,pos:= "lex.go:119",after:= #[{on:=0,ground:=Ground.data}],guard:=none}) rfl rfl (vx _ x.v (.bool true) 16 _ _ rfl (by simp[Act.put,ha.size]))
 obtain⟨t0,t1,t2,t3,t4,t5,t8,t9,t10,t11,t12,t13,t14,t18,t19,t20,t21,t22,t23,t24,t25,t26,t27,t28,t29,t30,t31,t32,t33,t34,t35,he⟩:=wY ha (.tuple #[x.v, .bool true]) (.bool true)
 have hcl:c<w.heap.size:=by have:=hw.lt;have:=hw.ltc;omega
 have hw1:TokW c L (n+1) n b sl (w.setChan c (L.length+1) ((L.drop (n+1)).map Item.v).toArray false L.length (n+1) false):=by
  have hg:w.grownBy (w.setChan c (L.length+1) ((L.drop (n+1)).map Item.v).toArray false L.length (n+1) false) (some c):=by
   refine⟨rfl,rfl,rfl,by simp[World.setChan],fun j hj hr=>?_⟩
   show(w.heap.setIfInBounds c _)[j]? =_
   rw[Array.getElem?_setIfInBounds_ne (fun e=>hr (by rw[e]))]
  obtain⟨h1,h2,⟨y0,y1,y2,y3,h3⟩,h4,h5⟩:=hw
  refine⟨heap_setChan w c _ _ _ _ _ _ hcl,h2.kept hg ?_,⟨y0,y1,y2,y3,h3.grown hg h4 (by simp;omega)⟩,Nat.lt_of_lt_of_le h4 hg.size,h5⟩
  cases hv:sl.ownBlock with
  |none=>exact .inl rfl
  |some k=>right;have:=h2.lt k hv;simp;omega
 have hitem:=zfd s c b L n x hx hL sl _ hw1 t0 t1 t2 t3 t4 t5 t8 t9 t10 t11 t12 t13 t14 t18 t19 t20 t21 t22 t23 t24 t25 t26 t27 t28 t29 t30 t31 t32 t33 t34 t35;rw[<-he] at hitem;obtain⟨e,a',w',⟨he1,sl',ha',hw'⟩,harr⟩:=hitem (base0 40) qY cs
 have s3:=qe (a:=a') he1 harr;refine⟨a',sl',w',ha',hw',?_⟩;refine Steps.head s1 (Steps.head s2 (Steps.head step_region_end (Steps.trans s3 ?_)));refine Steps.head step_inLoop ?_;show Steps Tryz.prog (lone ((base0 40).at a' (.code (.seq (seqL jf) xM)::qY)) cs w') _;refine Steps.head step_seq ?_;exact Steps.one (step_region (id:=8))
theorem zhj(s:ByteArray)(c b:Nat)(L:List Item)(hL:L.length<=8193)(cs:List Frame):∀(m n:Nat) (sl:Value) (a:Act) (w:World),n+m=L.length->TokA s c b sl a->TokW c L n n b sl w->
 ∃a' sl' w',TokA s c b sl' a'/\TokW c L L.length L.length b sl' w'/\Steps Tryz.prog (lone ((base0 40).at a yI) cs w) (lone ((base0 40).at a' yI) cs w'):=by
 intro m;induction m with
 |zero=>
  intro n sl a w hn ha hw;obtain rfl:n=L.length:=by omega
  exact⟨a,sl,w,ha,hw,Steps.refl _ _⟩
 |succ m ih=>
  intro n sl a w hn ha hw;obtain⟨a1,sl1,w1,h1,h2,h3⟩:=zfb s c b L n (by omega) hL sl a w cs ha hw
  obtain⟨a2,sl2,w2,k1,k2,k3⟩:=ih (n+1) sl1 a1 w1 (by omega) h1 h2
  exact⟨a2,sl2,w2,k1,k2,h3.trans k3⟩
noncomputable def r5:Code:=seqL tk4
noncomputable def r6:Code:=seqL (seqR tk4)
noncomputable def r7:Code:=seqL (seqL (seqR (seqR tk4)))
theorem zhk(s:ByteArray)(c:Nat)(w:World)(cs:List Frame):
 ∃a',TokA s c w.heap.size (.slice none 0 0) a'/\Steps Tryz.prog (lone (frc s c) cs w) (lone ((base0 40).at a' yI) cs (w.alloc (.cells #[.int .i64 0, .string ⟨#[]⟩, .int .i64 0, .int .i64 0, .int .i64 0, .int .i64 0] 142))):=by
 have h5:r5.wp Tryz.prog (fun e a w'=>e= .normal/\w'=w/\a=(goAct s c).put (some 6) (.slice none 0 0)) (goAct s c) w:=by
  simp only[r5,tk4,tk2,tk0,seqR,seqL,Tryz.f40,Option.getD_some,goAct];go_wp2
 have h6:r6.wp Tryz.prog (fun e a w'=>e= .normal/\w'=w.alloc (.cells #[.int .i64 0, .string ⟨#[]⟩, .int .i64 0, .int .i64 0, .int .i64 0, .int .i64 0] 142)/\a=((goAct s c).put (some 6) (.slice none 0 0)).put (some 7) (.pointer (some ⟨w.heap.size,0,none⟩))) ((goAct s c).put (some 6) (.slice none 0 0)) w:=by
  simp only[r6,tk4,tk2,tk0,seqR,seqL,Tryz.f40,Option.getD_some,goAct];go_wp2
 have h7:∀w',r7.wp Tryz.prog (fun e a w''=>e= .normal/\w''=w'/\a=(((goAct s c).put (some 6) (.slice none 0 0)).put (some 7) (.pointer (some ⟨w.heap.size,0,none⟩))).put (some 15) (.chan (some c))) (((goAct s c).put (some 6) (.slice none 0 0)).put (some 7) (.pointer (some ⟨w.heap.size,0,none⟩))) w':=by
  intro w';simp only[r7,tk4,tk2,tk0,seqR,seqL,Tryz.f40,Option.getD_some,goAct];go_wp2
 refine⟨(((goAct s c).put (some 6) (.slice none 0 0)).put (some 7) (.pointer (some ⟨w.heap.size,0,none⟩))).put (some 15) (.chan (some c)),⟨rfl,rfl,rfl,rfl,rfl⟩,?_⟩;refine Steps.head step_region_end ?_;show Steps Tryz.prog (lone ((base0 40).at (goAct s c) [.code (.seq r5 (seqR tk4))]) cs w) _;refine Steps.head step_seq ?_;obtain⟨e,a',w',⟨he,rfl,rfl⟩,harr⟩:=h5 (base0 40) [.code (seqR tk4)] cs
 refine Steps.trans (qe (a:=goAct s c) he harr) ?_;show Steps Tryz.prog (lone ((base0 40).at _ [.code (.seq r6 (seqR (seqR tk4)))]) cs _) _;refine Steps.head step_seq ?_;obtain⟨e,a',w',⟨he,rfl,rfl⟩,harr⟩:=h6 (base0 40) [.code (seqR (seqR tk4))] cs
 refine Steps.trans (qe (a:=goAct s c) he harr) ?_;show Steps Tryz.prog (lone ((base0 40).at _ [.code (.seq (.seq r7 (.block 0 (.loop jf))) vG)]) cs _) _;refine Steps.head step_seq (Steps.head step_seq ?_);obtain⟨e,a',w',⟨he,rfl,rfl⟩,harr⟩:=h7 _ (base0 40) [.code (.block 0 (.loop jf)), .code vG] cs
 refine Steps.trans (qe (a:=goAct s c) he harr) ?_;refine Steps.head step_block (Steps.head step_loop ?_);show Steps Tryz.prog (lone ((base0 40).at _ (.code (.seq (seqL jf) xM)::qY)) cs _) _;exact Steps.head step_seq (Steps.one (step_region (id:=8)))
theorem zfc(s:ByteArray)(f:FuncId)(c:Nat)(W:World)(hs:(pieces s).length<=8193)(hc:c<W.heap.size):
 Lone Tryz.prog (Xc s f c) (Go.Conc.G (frc s c) [bottom f c]) (put W c (.chan ((pieces s).length+1) ((pieces s).map Item.v).toArray false (pieces s).length 0 false)):=by
 intro T d;have hch:(re (put W c (.chan ((pieces s).length+1) ((pieces s).map Item.v).toArray false (pieces s).length 0 false)) T d).heap[c]? =some (.chan ((pieces s).length+1) ((pieces s).map Item.v).toArray false (pieces s).length 0 false):=put_at hc;have hsz:(re (put W c (.chan ((pieces s).length+1) ((pieces s).map Item.v).toArray false (pieces s).length 0 false)) T d).heap.size=W.heap.size:=yv _ _ _;generalize re (put W c (.chan ((pieces s).length+1) ((pieces s).map Item.v).toArray false (pieces s).length 0 false)) T d=w at hch hsz;obtain⟨a,ha,h1⟩:=zhk s c w [bottom f c]
 have hw:TokW c (pieces s) 0 0 w.heap.size (.slice none 0 0) (w.alloc (.cells #[.int .i64 0, .string ⟨#[]⟩, .int .i64 0, .int .i64 0, .int .i64 0, .int .i64 0] 142)):=by
  refine⟨?_,World.ownsRow_nil _ _ _ _,⟨_,_,_,_,xj _ _ _ _ _ _ _ _⟩,by simp,by omega⟩
  rw[(World.grownBy_alloc w _ none).block c (by omega) (by simp)]
  exact hch
 obtain⟨a',sl',w',h2,h3,h4⟩:=zhj s c _ (pieces s) hs [bottom f c] _ 0 _ _ _ (Nat.zero_add _) ha hw
 obtain⟨n,hn⟩:=h1.trans h4
 exact⟨n,_,w',hn,rfl,a',_,sl',rfl,h2,h3⟩
structure Kin (w w':World):Prop where
 os:w'.os=w.os
 out:w'.output=w.output
 size:w.heap.size<=w'.heap.size
 block:∀k,k<w.heap.size->w'.heap[k]? =w.heap[k]?
theorem Kin.refl(w:World):Kin w w:=⟨rfl,rfl,Nat.le_refl _,fun _ _=>rfl⟩
theorem Kin.trans{a b c:World}(h:Kin a b)(k:Kin b c):Kin a c:=⟨k.os.trans h.os,k.out.trans h.out,Nat.le_trans h.size k.size,fun j hj=>(k.block j (Nat.lt_of_lt_of_le hj h.size)).trans (h.block j hj)⟩
theorem Kin.cell{w w':World}(h:Kin w w'){n o:Nat}(hn:n<w.heap.size):w'.cell? ⟨n,o,none⟩=w.cell? ⟨n,o,none⟩:=World.cell?_of_block (a:=⟨n,o,none⟩) (h.block n hn)
theorem Kin.frozen{w w':World}(h:Kin w w'){n o:Nat}(hn:n<w.heap.size):w'.frozen? ⟨n,o,none⟩=w.frozen? ⟨n,o,none⟩:=World.frozen?_of_block (a:=⟨n,o,none⟩) (h.block n hn)
section
variable {F:FuncId->Prop} {ρ:Rn} {v v':World}
theorem zgm{w:World}{r o:Nat}{x:Value}(h:w.cell? ⟨r,o,none⟩=some x):∃cs t f,w.heap[r]? =some (.cells cs t f)/\cs[o]? =some x:=by
 unfold World.cell? at h
 simp only at h
 split at h
 ·rename_i cs t f hh;exact⟨cs,t,f,hh,h⟩
 ·cases h
theorem cell_put{w:World}{r o:Nat}{x:Value}{cs:Array Value}{t:TypeId}{f:Nat×Nat}(h:w.heap[r]? =some (.cells cs t f))(hx:cs[o]? =some x):w.cell? ⟨r,o,none⟩=some x:=by
 unfold World.cell?
 simp only[h];exact hx
theorem zgl(hw:WRel F ρ v v'){r r' o:Nat}(hr:ρ r r'){x:Value}(h:v.cell? ⟨r,o,none⟩=some x):∃y,v'.cell? ⟨r',o,none⟩=some y/\VRel F ρ x y:=by
 obtain⟨cs,t,f,h1,h2⟩:=zgm h
 obtain⟨o1,o2,k1,k2,k3⟩:=hw r r' hr
 rw[h1] at k1;cases k1;cases k3 with
 | @cells _ cs' _ _ hh=>
   have hi:o<cs.size:=(Array.getElem?_eq_some_iff.1 h2).1;have hi':o<cs'.size:=hh.size▸hi;exact⟨cs'[o],cell_put k2 (Array.getElem?_eq_getElem hi'),hh.all o _ _ h2 (Array.getElem?_eq_getElem hi')⟩
theorem zaG(hw:WRel F ρ v v'){r r' o:Nat}(hr:ρ r r'){k:IntKind}{n:Int}(h:v.cell? ⟨r,o,none⟩=some (.int k n)):v'.cell? ⟨r',o,none⟩=some (.int k n):=by
 obtain⟨y,h1,h2⟩:=zgl hw hr h
 cases h2;exact h1
theorem owns_rel(hw:WRel F ρ v v'){base base':Nat}{e:TypeId}{size:Nat}{x y:Value}{n:Nat}{xs:List Value}(h:v.ownsRow base e size x n xs)(hx:VRel F ρ x y)(hp:∀u∈xs,PlainV u)(hb:∀a b,ρ a b->base'<=b):v'.ownsRow base' e size y n xs:=by
 refine⟨h.1,?_⟩;rcases h.2 with⟨rfl,h2⟩|⟨g,cap,cur,rfl,h2,h3,h4,h5,h6,h7⟩
 ·cases hx with
  |slice _ _ ha=>
   cases ha;exact .inl ⟨rfl,h2⟩
 ·cases hx with
  |slice _ _ ha=>
   cases ha with
   | @some a b hab=>
     obtain⟨k1,k2,k3⟩:=hab
     obtain⟨b1,b2,b3⟩:=b
     simp only at k1 k2 k3
     subst k2;subst k3
     obtain⟨o1,o2,q1,q2,q3⟩:=hw g b1 k1
     rw[h3] at q1;cases q1;cases q3 with
     | @cells _ cs' _ _ hh=>
       refine .inr ⟨b1,cap,cs',rfl,hb _ _ k1,q2,h4,h5,hh.size▸h6,?_⟩;rw[<-h7];apply List.ext_getElem?;intro i;rw[List.getElem?_take,List.getElem?_take];by_cases hi:i<n*size
       ·rw[if_pos hi,if_pos hi];have hlen:i<cur.size:=by
         rw[h6];exact Nat.lt_of_lt_of_le hi (Nat.mul_le_mul_right _ h4)
        have hlen':i<cs'.size:=hh.size▸hlen;have e1:cur.toList[i]? =some cur[i]:=by simp[hlen]
        have e2:cs'.toList[i]? =some cs'[i]:=by simp[hlen']
        rw[e1,e2];have hm:cur[i]∈xs:=by
         rw[<-h7];refine List.mem_of_getElem? (i:=i) ?_;rw[List.getElem?_take,if_pos hi,e1]
        exact congrArg some ((hp _ hm).fix F ρ _ (hh.all i _ _ (Array.getElem?_eq_getElem hlen) (Array.getElem?_eq_getElem hlen')))
       ·rw[if_neg hi,if_neg hi]
end
noncomputable def kp:Array Oper:=zw (seqL f77c)
noncomputable def b77:Frame:={(default:Frame) with fn:=77,kind:= .deferred}
def cut0(s:ByteArray)(c:Nat):Act:={tmps:= #[.string s, .chan (some c)]++Array.replicate 44 undef,defers:=[]}
def cut1(s:ByteArray)(c:Nat):Act:={tmps:=(cutAct s c).tmps,defers:=[]}
def closeD(c:Nat):Deferred:=zM #[188] 0 #[false] c
noncomputable def frp'(s:ByteArray)(c:Nat):Frame:=b77.at {tmps:=(cutAct s c).tmps,defers:=[closeD c]} [.code yD]
def qz(s:ByteArray)(c:Nat):Deferred:={target:= .fn (.func 77) #[],args:= #[.string s, .chan (some c)]}
section
variable {P:Program} {b:Frame} {a:Act} {k:List Go.Item} {cs:List Frame} {w:World} {ops:Array Oper}
theorem zjI{x y:Code}:stepG P false (Go.Conc.G (b.at a (.code (.seq x y)::k)) cs) w= .go (Go.Conc.G (b.at a (.code x:: .code y::k)) cs) w #[]:=by
 simp[stepG,stepG.exec,Frame.at,Go.Conc.G,GStep.after]
theorem zgc{id:Nat}:stepG P false (Go.Conc.G (b.at a (.code (.region id ops false)::k)) cs) w= .go (Go.Conc.G (b.at a (.inRegion ops (List.range ops.size)::k)) cs) w #[]:=by
 simp[stepG,stepG.exec,Frame.at,Go.Conc.G,GStep.after]
theorem zay:stepG P false (Go.Conc.G (b.at a (.inRegion ops []::k)) cs) w= .go (Go.Conc.G (b.at a k) cs) w #[]:=by
 simp[stepG,stepG.exec,Frame.at,Go.Conc.G,GStep.after]
theorem zi2{i:Nat}{rest:List Nat}{o:Oper}{v:Value}(hk:b.kind≠ .early)(ho:ops[i]? =some o)(hw:Region.wanted o (yielded ops a.tmps)=true)(he:execOp a.eval o=pure (.value v)):
 stepG P false (Go.Conc.G (b.at a (.inRegion ops (i::rest)::k)) cs) w= .go (Go.Conc.G (b.at (a.put o.dst v) (.inRegion ops rest::k)) cs) w #[]:=by
 rw[stepG_value ho hw hk (v:=v) (w':=w) (by rw[he];rfl),listed_none (by rw[he];rfl)]
theorem zhY{i:Nat}{rest:List Nat}{o:Oper}{d:Deferred}(hk:b.kind≠ .early)(ho:ops[i]? =some o)(hw:Region.wanted o (yielded ops a.tmps)=true)(he:(execOp a.eval o).runT P w #[]=(.ok (.defer d) w,#[])):
 stepG P false (Go.Conc.G (b.at a (.inRegion ops (i::rest)::k)) cs) w= .go (Go.Conc.G (b.at ({a with defers:=d::a.defers}.put o.dst undef) (.inRegion ops rest::k)) cs) w #[]:=by
 have hfin:({b.at a (.inRegion ops (i::rest)::k) with defers:=d::a.defers}:Frame).finish undef=b.at ({a with defers:=d::a.defers}.put o.dst undef) (.inRegion ops rest::k):=by
  have e:=Frame.finish_at b {a with defers:=d::a.defers} ops i rest k undef;rw[ho] at e;exact e
 have hk':(b.kind==CallKind.early)=false:=by simpa using hk
 rw[stepG_oper ho hw,<-hfin];have he1:(execOp a.eval o).run P w= .ok (.defer d) w:=by rw[<-Sem.runT_fst (es:= #[]),he]
 have he2:(execOp a.eval o).events P w #[]= #[]:=by unfold Sem.events;rw[he]
 simp[stepG.apply,he1,he2,Go.Conc.G,Frame.at,hk',GStep.after,seen_none]
end
theorem pre1(s:ByteArray)(c:Nat)(w:World):stepG Tryz.prog false (born Tryz.prog (qz s c)) w= .go (Go.Conc.G (b77.at (cut0 s c) [.code f77c]) [under Tryz.prog]) w #[]:=by
 have h1:(Tryz.f77.name= "runtime.NumGoroutine")↔False:=by simp[Tryz.f77]
 have h2:(Tryz.f77.body=none)↔False:=by simp[Tryz.f77]
 have hi:(invoke (.fn (.func 77) #[]) #[.string s, .chan (some c)]).runT Tryz.prog w #[]=(.ok (.enter 77 #[.string s, .chan (some c)]) w,#[]):=by
  simp[invoke,callFunc,Tryz.func77,Sem.runT,h1,h2]
 unfold stepG born;dsimp only;unfold unwind;dsimp only [qz]
 unfold callDeferred;dsimp only;rw[hi];dsimp only;rw[if_neg (by simp),seen_none]
 unfold Go.Conc.G under GStep.after;have:Frame.enter Tryz.prog 77 #[.string s, .chan (some c)] .deferred=b77.at (cut0 s c) [.code f77c]:=by
  simp[Frame.enter,Frame.at,Tryz.func77,b77,cut0,Tryz.f77,f77c]
 rw[this];rfl
theorem pre2(s:ByteArray)(c:Nat)(w:World)(cs:List Frame):stepG Tryz.prog false (Go.Conc.G (b77.at (cut0 s c) [.code f77c]) cs) w= .go (Go.Conc.G (b77.at (cut0 s c) [.code (seqL f77c), .code yD]) cs) w #[]:=by
 exact zjI
theorem pre3(s:ByteArray)(c:Nat)(w:World)(cs:List Frame):stepG Tryz.prog false (Go.Conc.G (b77.at (cut0 s c) [.code (seqL f77c), .code yD]) cs) w= .go (Go.Conc.G (b77.at (cut0 s c) [.inRegion kp [0,1], .code yD]) cs) w #[]:=by
 exact zgc (id:=0)
theorem pre4(s:ByteArray)(c:Nat)(w:World)(cs:List Frame):stepG Tryz.prog false (Go.Conc.G (b77.at (cut0 s c) [.inRegion kp [0,1], .code yD]) cs) w= .go (Go.Conc.G (b77.at (cut1 s c) [.inRegion kp [1], .code yD]) cs) w #[]:=by
 have e1:(cut0 s c).put (some 10) (.chan (some c))=cut1 s c:=by
  simp[cut0,cut1,cutAct,Act.put,Array.replicate_succ]
 have e2:execOp (cut0 s c).eval {dst:=some 10,op:=Op.move (Operand.tmp 1),type:=188,pos:= "lex.go:92",after:= #[],guard:=none}=pure (.value (.chan (some c))):=by
  simp[execOp,qc,cut0]
 rw[<-e1];exact zi2 (o:={dst:=some 10,op:=Op.move (Operand.tmp 1),type:=188,pos:= "lex.go:92",after:= #[],guard:=none}) (by simp[b77]) rfl rfl e2
theorem pre5(s:ByteArray)(c:Nat)(w:World)(cs:List Frame):stepG Tryz.prog false (Go.Conc.G (b77.at (cut1 s c) [.inRegion kp [1], .code yD]) cs) w= .go (Go.Conc.G (b77.at {tmps:=(cutAct s c).tmps,defers:=[closeD c]} [.inRegion kp [], .code yD]) cs) w #[]:=by
 have e:(execOp (cut1 s c).eval {dst:=none,op:=Op.defer {callee:=Callee.builtin Builtin.close,args:= #[Operand.tmp 10],argTypes:= #[188]},type:=0,pos:= "lex.go:92",after:= #[{on:=0,ground:=Ground.data}],guard:=none}).runT Tryz.prog w #[]=(.ok (.defer (closeD c)) w,#[]):=by
  simp[execOp,resolve,qc,cut1,cutAct,closeD,zM,Sem.runT]
 exact zhY (o:={dst:=none,op:=Op.defer {callee:=Callee.builtin Builtin.close,args:= #[Operand.tmp 10],argTypes:= #[188]},type:=0,pos:= "lex.go:92",after:= #[{on:=0,ground:=Ground.data}],guard:=none}) (d:=closeD c) (by simp[b77]) rfl rfl e
theorem pre6(s:ByteArray)(c:Nat)(w:World)(cs:List Frame):stepG Tryz.prog false (Go.Conc.G (b77.at {tmps:=(cutAct s c).tmps,defers:=[closeD c]} [.inRegion kp [], .code yD]) cs) w= .go (Go.Conc.G (frp' s c) cs) w #[]:=by
 exact zay
theorem zh3(s:ByteArray)(c:Nat):Pre Tryz.prog 6 (born Tryz.prog (qz s c)) (Go.Conc.G (frp' s c) [under Tryz.prog]):=
 ⟨rfl,_,pre1 s c,rfl,_,fun w=>pre2 s c w _,rfl,_,fun w=>pre3 s c w _,rfl,_,fun w=>pre4 s c w _,rfl,_,fun w=>pre5 s c w _,rfl,_,fun w=>pre6 s c w _,rfl⟩
open Go.ChangeShapes Go.WideShapes Go.ChangeAt Go.RowKit Go.Conc
section
variable {H:Type} {enc:TypeId×Value->H}
theorem qi{a:Assume}{C:Checked}{os:Os}{f:FuncId}{fn:Func}{s:ChangeSpec}{conds:List PathCond}{apart fresh handsOn again:Bool}{X:World->Array Value->Prop}
 (hX:∀(w w':World) (args:Array Value),w.heap=w'.heap->X w args->X w' args)
 (own:ownKnob C.prog.godebug=none) (started:os.Started) (hfn:C.prog.funcs[f]? =some fn)
 (witness:∃(w:World) (tape:Tape) (i:Input),w.os=os/\(w.forCall tape i).Shaped C.prog/\i.vars=[]/\Input.okWide C.prog (w.forCall tape i) .any w.heap.size f i/\
  ((s.pre enc C.prog fn conds apart (w.forCall tape i).memory i.args/\X (w.forCall tape i).memory i.args)/\sizedMet enc C.prog fn (OpenSpec.ofChange s) apart (w.forCall tape i).memory i.args)/\a.holds C.prog (lone (Frame.enter C.prog f i.args .normal) [] (w.forCall tape i)))
 (runs:∀(W:World) (base:Nat) (args:Array Value) (ds gs:List (DataW H)) (before:List MemPlace),
  (∀(j:Nat) t v,fn.params[j]? =some t->args[j]? =some v->Value.okWide C.prog W .any base t v)->
  DataW.Whole enc C.prog fn.params.toList s.vars apart W args.toList ds gs before->
  conds.all (PathCond.test C.prog ⟨fn.params.toList,ds,s.plain.varTypes C.prog,gs⟩)=true->
  (DataW.weightsEach C.prog (fn.params.toList++s.plain.varTypes C.prog) (ds++gs)).all (· <=reachBytes)=true->X W args->
  a.holds C.prog (lone (Frame.enter C.prog f args .normal) [] W)->
  ∃M last o w' t',runNT C.prog (M+1) (solo (G (Frame.enter C.prog f args .normal) []) W) #[]=(.ended o w',t')/\runN C.prog M (solo (G (Frame.enter C.prog f args .normal) []) W)= .next last/\
   step C.prog last= .ended o w'/\Conc.Good C.prog (fun v W'=>s.post enc C.prog fn apart fresh handsOn again W args v W') last o w' t'):
 ReturnsInLeavingWide a C os f .any (fun w args=>(s.pre enc C.prog fn conds apart w args/\X w args)/\sizedMet enc C.prog fn (OpenSpec.ofChange s) apart w args) (s.post enc C.prog fn apart fresh handsOn again):=by
 refine returnsInLeavingWide_of_good own started witness ?_;intro w tape i _ _ _ hok hpre hholds;obtain⟨_,_,_,fn',hfn',_,_,_,_,hval⟩:=hok
 have e:fn'=fn:=Option.some.inj (hfn'.symm.trans hfn);subst e;obtain⟨⟨⟨ds,gs,before,hw,hc⟩,hx⟩,hz⟩:=hpre
 have hw':=DataW.Whole.of_heap (w':=w.forCall tape i) (by rfl) hw
 obtain⟨M,last,o,w',t',h1,h2,h3,h4⟩:=runs (w.forCall tape i) w.heap.size i.args ds gs before hval hw' hc (hz.weights hw) (hX _ _ _ (by rfl) hx) hholds
 exact⟨M,last,o,w',t',h1,h2,h3,h4.mono fun v hp=>ChangeSpec.post_blind hp⟩
end
theorem own0:ownKnob Tryz.prog.godebug=none:=by kernel_rfl
theorem zbq{W w':World}(h:Kin W w')(may:MemPlace->Prop):W.keptBut w' may:=by
 refine⟨h.os,h.out,fun i hi=>?_⟩;rw[h.block i hi]
 split<;>simp_all
theorem uX(Lk:Looks){p:Pinned}{s:OpenSpec}{c:OpenClaim}(kinds:List LaidKind)(tests:Bool)(har:Bool×String)(lk:Bool)
 (hc:c.holds p s) (hw:c.wfByText s=true) (htie:c.laidByTextAt Lk p kinds tests)
 (hst:c.start= .entering) (hnb:c.noBlocks=false/\c.again=false) (hm:p.checked.prog.mainIs=some (har.1,har.2.toList)) (hn:(!har.1&&har.2.isEmpty&&!lk)=false)
 (hl:∀f fn,p.checked.prog.funcNamed c.func=some f->p.checked.prog.funcs[f]? =some fn->lk=p.checked.prog.looks []/\∀(j:Nat) t,fn.params[j]? =some t->p.checked.prog.wantsStandIn t=false)
 (hg:true=c.goesBy p.checked.prog):
 Claim7.holds p (.plain s) {stood:={row:=c,standIns:=[],harness:=har,looks:=lk},kinds:=[],alts:=[],goes:=true,laidByText:=true,laidKinds:=kinds,laidTests:=tests,laidLooks:=Lk}:=by
 have h6:∀r:OpenClaim,Claim7.isSixth {stood:={row:=r,standIns:=[],harness:=har,looks:=lk},kinds:=[]}=false:=fun r=>by simpa [Claim7.isSixth] using hn
 have ht:=Claim7.tied_new_at Lk kinds tests (Claim7.new_of_sixth hc har lk hst hnb hm (h6 c) hl) hw;refine⟨ht,fun D hD=>?_,htie,(fun h=>by cases h),hg⟩
 cases hD
open Go.RowKit Go.Bsd Go.Conc
structure VarsOk (w:World):Prop where
 plain:∀y,y=5\/y=6\/y=7->∃cs T fz,w.heap[y]? =some (.cells cs T fz)/\∀v∈cs,PlainV v
 far:∀y,y=8\/y=9->∃b o T fz,w.heap[y]? =some (.cells #[.iface 253 (.pointer (some ⟨b,o,none⟩))] T fz)
 size:Tryz.prog.globals.size<=w.heap.size
theorem VarsOk.kin{w w':World}(h:VarsOk w)(k:Kin w w'):VarsOk w':=by
 obtain⟨h1,h2,h5⟩:=h
 refine⟨fun y hy=>?_,fun y hy=>?_,Nat.le_trans h5 k.size⟩
 ·obtain⟨cs,T,fz,q1,q2⟩:=h1 y hy
  exact⟨cs,T,fz,(k.block y (lt_of_some q1)).trans q1,q2⟩
 ·obtain⟨b,o,T,fz,q1⟩:=h2 y hy
  exact⟨b,o,T,fz,(k.block y (lt_of_some q1)).trans q1⟩
def farW(w:World)(o8 o9:Obj):World:={w with heap:=(w.heap.setIfInBounds 8 o8).setIfInBounds 9 o9}
theorem farW_size(w:World)(o8 o9:Obj):(farW w o8 o9).heap.size=w.heap.size:=by simp[farW]
theorem zh0(w:World)(o8 o9:Obj)(hz:9<w.heap.size)(y:Nat):(farW w o8 o9).heap[y]? =if y=9 then some o9 else if y=8 then some o8 else w.heap[y]? :=by
 show((w.heap.setIfInBounds 8 o8).setIfInBounds 9 o9)[y]? =_
 rw[Array.getElem?_setIfInBounds,Array.getElem?_setIfInBounds];by_cases h9:y=9
 ·subst h9;simp[hz]
 ·by_cases h8:y=8
  ·subst h8;simp;omega
  ·simp[h9,h8,Ne.symm h9,Ne.symm h8]
def vM(t b o:Nat)(T:TypeId)(fz:Nat×Nat):Obj:= .cells #[.iface t (.tuple #[.complex .f64 b o])] T fz
theorem VarsOk.stands{w:World}(h:VarsOk w):∃o8 o9:Obj,(∃te pe,(farW w o8 o9).cell? ⟨8,0,none⟩=some (.iface te pe))/\(∃te pe,(farW w o8 o9).cell? ⟨9,0,none⟩=some (.iface te pe))/\9<w.heap.size/\
 (∀y,(y=5\/y=6\/y=7\/y=8\/y=9)->xX (farW w o8 o9) w y):=by
 obtain⟨h1,h2,h5⟩:=h
 obtain⟨b8,o8,T8,f8,q8⟩:=h2 8 (.inl rfl)
 obtain⟨b9,o9,T9,f9,q9⟩:=h2 9 (.inr rfl)
 have hz:9<w.heap.size:=lt_of_some q9;have ha:=zh0 w (vM 253 b8 o8 T8 f8) (vM 253 b9 o9 T9 f9) hz;refine⟨vM 253 b8 o8 T8 f8,vM 253 b9 o9 T9 f9,⟨253, .tuple #[.complex .f64 b8 o8],?_⟩,⟨253, .tuple #[.complex .f64 b9 o9],?_⟩,hz,fun y hy=>?_⟩
 ·unfold World.cell?
  dsimp only;rw[ha];simp[vM]
 ·unfold World.cell?
  dsimp only;rw[ha];simp[vM]
 ·have one:∀(b o:Nat) (i:Nat) (x x':Value),(#[Value.iface 253 (.tuple #[.complex .f64 b o])]:Array Value)[i]? =some x->(#[Value.iface 253 (.pointer (some ⟨b,o,none⟩))]:Array Value)[i]? =some x'->Stands x x':=by
   intro b o i x x' hx hx';cases i with
   |zero=>
    simp at hx hx';subst hx hx';exact Stands.far 253 b o rfl
   |succ i=>simp at hx
  by_cases e9:y=9
  ·subst e9;exact⟨#[.iface 253 (.tuple #[.complex .f64 b9 o9])],_,T9,f9,by rw[ha,if_pos rfl];rfl,q9,rfl,one b9 o9⟩
  ·by_cases e8:y=8
   ·subst e8;exact⟨#[.iface 253 (.tuple #[.complex .f64 b8 o8])],_,T8,f8,by rw[ha,if_neg (by decide),if_pos rfl];rfl,q8,rfl,one b8 o8⟩
   ·obtain⟨cs,T,fz,q1,q2⟩:=h1 y (by omega)
    refine⟨cs,cs,T,fz,by rw[ha,if_neg e9,if_neg e8];exact q1,q1,rfl,fun i x x' hx hx'=>?_⟩
    rw[hx] at hx';cases hx';exact Stands.plain (q2 x (Array.mem_of_getElem? hx))
def TokRes(s:ByteArray)(w:World)(v:Value)(w':World):Prop:=
 if 8192<s.size then v= .tuple #[.slice none 0 0, .int .i64 21, .int .i64 8192]
 else if (badOf (pieces s)).1≠0 then v= .tuple #[.slice none 0 0, .int .i64 (badOf (pieces s)).1, .int .i64 (badOf (pieces s)).2]
 else ∃sl,v= .tuple #[sl, .int .i64 0, .int .i64 0]/\w'.ownsRow w.heap.size 140 4 sl (zr (pieces s)).length (flatToks (zr (pieces s)))
def qg(s:ByteArray)(w:World):Ending->World->Prop
 | .returned v,w'=>Kin w w'/\TokRes s w v w'
 |_,_=>False
theorem zbu(s:ByteArray):∀f i,(cutF s f i).length<=f:=by
 intro f;induction f with
 |zero=>intro i;exact Nat.le_refl _
 |succ f ih=>
  intro i;unfold cutF;split
  ·split
   ·have:=ih (skipTo s (i+(itemAt s i).text.size));simp;omega
   ·simp
  ·simp
theorem kP(s:ByteArray):(pieces s).length<=s.size+1:=zbu s _ _
theorem cut_okB:xl Tryz.prog zA zz true yD=true:=by kernel_rfl
theorem tk4_okB:xl Tryz.prog [] [] false tk4=true:=by kernel_rfl
theorem zcG:SimP Tryz.prog (inF []) (inG []) (fun b=>b=false):=zbR fun f hf=>absurd hf (by simp)
theorem zbi(l:List Item):∀u∈flatToks l,PlainV u:=by
 intro u hu;simp only[flatToks,List.mem_flatMap] at hu;obtain⟨x,_,hx⟩:=hu
 simp only[tokCells,List.mem_cons,List.not_mem_nil,or_false] at hx;rcases hx with rfl|rfl|rfl|rfl<;>exact plainV_of 0 rfl
theorem plainV_item(x:Item):PlainV x.v:=by
 refine plainV_of 1 ?_;simp only[Item.v,itemV,grB];rfl
theorem uD{F:FuncId->Prop}{ρ:Rn}{cs:Array Value}(h:∀v∈cs,VRel F ρ v v):VsRel F ρ cs cs:=⟨rfl,fun i v v' h1 h2=>by
 rw[h1] at h2;cases h2;exact h v (Array.mem_of_getElem? h1)⟩
theorem frel_cons(s:ByteArray)(c:Nat):FRel Tryz.prog (inF []) (inG []) (fun b=>b=false) [] [] (fun x y=>x=y/\x=c) (frc s c) (frc s c):=by
 refine⟨rfl,⟨_,Tryz.func40⟩,uD ?_,rfl,?_, .nil, .run,rfl,rfl⟩
 ·intro v hv;have hu:∀v,v∈(goAct s c).tmps->v= .chan (some c)\/grB 2 v=true:=by
   intro v hv;simp only[goAct,List.mem_toArray,List.mem_cons,List.not_mem_nil,or_false] at hv;rcases hv with rfl|rfl|rfl|rfl|rfl|rfl|rfl|rfl|rfl|rfl|rfl|rfl|rfl|rfl|rfl|rfl|rfl|rfl|rfl|rfl|rfl|rfl|rfl|rfl|rfl|rfl|rfl|rfl|rfl|rfl|rfl|rfl|rfl|rfl|rfl|rfl<;>first|exact .inl rfl|exact .inr rfl
  rcases hu v hv with rfl|h
  ·exact .chan (.some ⟨rfl,rfl⟩)
  ·exact(grB_ok 2 v h) _ _
 ·intro x hx;simp only[frc,Frame.at,List.mem_cons,List.not_mem_nil,or_false] at hx;rcases hx with rfl|rfl
  ·intro i hi;cases hi
  ·exact okCodeB_ok tk4_okB
theorem frel_prod(s:ByteArray)(c:Nat)(Gb:Nat->Prop):FRel Tryz.prog (inF zA) (inG zz) (fun b=>b=true) [] [closeD c] (fun x y=>x=y/\(x=c\/Gb x)) (frp s c) (frp' s c):=by
 refine⟨rfl,⟨_,Tryz.func77⟩,uD ?_,rfl,?_, .nil, .run,rfl,rfl⟩
 ·intro v hv;have hu:v= .chan (some c)\/grB 2 v=true:=by
   have hv:v∈(cutAct s c).tmps:=hv;simp only[cutAct,List.append_toArray,Array.mem_append,List.mem_toArray,List.mem_cons,List.not_mem_nil,or_false,Array.mem_replicate] at hv;rcases hv with hv|hv
   ·rcases hv with rfl|rfl|rfl|rfl|rfl|rfl|rfl|rfl|rfl|rfl|rfl<;>first|exact .inl rfl|exact .inr rfl
   ·rw[hv.2];exact .inr rfl
  rcases hu with rfl|h
  ·exact .chan (.some ⟨rfl, .inl rfl⟩)
  ·exact(grB_ok 2 v h) _ _
 ·intro x hx;simp only[frp,Frame.at,List.mem_cons,List.not_mem_nil,or_false] at hx;subst hx;exact okCodeB_ok cut_okB
theorem res40(a:Array Value)(x y z:Value)(h2:a.getD 2 undef=x)(h3:a.getD 3 undef=y)(h4:a.getD 4 undef=z)(w:World):(results Tryz.f40 a).run Tryz.prog w= .ok (.tuple #[x,y,z]) w:=by
 subst h2;subst h3;subst h4
 simp[results,Tryz.f40]
theorem zfg(s:ByteArray)(w0 w1:World)(b c:Nat)(sl u:Value)(hs:¬8192<s.size)(hk:Kin w0 w1)(hbad1:w1.cell? ⟨b,4,none⟩=some (.int .i64 (badOf (pieces s)).1))(hbad2:w1.cell? ⟨b,5,none⟩=some (.int .i64 (badOf (pieces s)).2))
 (hown:w1.ownsRow w0.heap.size 140 4 sl (zr (pieces s)).length (flatToks (zr (pieces s)))) (T:Nat->Question->Nat) (d:Nat) (t0 t1 t2 t3 t4 t5 t8 t9 t10 t11 t12 t13 t14 t18 t19 t20 t21 t22 t23 t24 t25 t26 t27 t28 t29 t30 t31 t32 t33 t34 t35:Value):
 vG.wp Tryz.prog (bodyPostD Tryz.prog Tryz.f40 (qg s w0)) {tmps:= #[t0,t1,t2,t3,t4,t5,sl, .pointer (some ⟨b,0,none⟩),t8,t9,t10,t11,t12,t13,t14, .chan (some c),u, .bool false,t18,t19,t20,t21,t22,t23,t24,t25,t26,t27,t28,t29,t30,t31,t32,t33,t34,t35],defers:=[]} (re w1 T d):=by
 have q1:(re w1 T d).cell? ⟨b,4,none⟩=some (.int .i64 (badOf (pieces s)).1):=hbad1;have q2:(re w1 T d).cell? ⟨b,5,none⟩=some (.int .i64 (badOf (pieces s)).2):=hbad2;have HK:Hid (Kin w0 (re w1 T d)):=Lib.hid ⟨hk.os,hk.out,hk.size,hk.block⟩;have HO:Hid ((re w1 T d).ownsRow w0.heap.size 140 4 sl (zr (pieces s)).length (flatToks (zr (pieces s)))):=Lib.hid hown;have HS:=Lib.hid hs;clear hbad1 hbad2 hk hown hs;generalize re w1 T d=w at q1 q2 HK HO⊢;generalize hpq:badOf (pieces s)=pq at q1 q2;have HP:=Lib.hid hpq;clear hpq;generalize hQ:bodyPostD Tryz.prog Tryz.f40 (qg s w0)=Q;have HQ:=Lib.hid hQ;clear hQ;simp only[vG,tk4,tk2,tk0,seqR,seqL,Tryz.f40,Option.getD_some];by_cases hc:pq.1=0
 ·have k1:(pq.1==0)=true:=by simp[hc]
  have k2:(pq.1 !=0)=false:=by simp[hc]
  have HC:=Lib.hid hc;clear hc;go_wp2;rw[<-HQ.out];refine⟨_,res40 _ _ _ _ rfl rfl rfl _,HK.out,?_⟩;unfold TokRes;rw[if_neg HS.out,HP.out,if_neg (by simpa using HC.out)]
  exact⟨sl,rfl,HO.out⟩
 ·have k1:(pq.1==0)=false:=by simp[hc]
  have k2:(pq.1 !=0)=true:=by simp[hc]
  have HC:=Lib.hid hc;clear hc;go_wp2;go_region
  go_wp2;rw[<-HQ.out];refine⟨_,res40 _ _ _ _ rfl rfl rfl _,⟨HK.out.os,HK.out.out,HK.out.size,HK.out.block⟩,?_⟩;unfold TokRes;rw[if_neg HS.out,HP.out,if_pos HC.out];rfl
theorem zjJ{fr fr':Frame}{l l':List Frame}(h:Go.Conc.G fr l=Go.Conc.G fr' l'):fr=fr'/\l=l':=by
 simp only[Go.Conc.G,Goroutine.mk.injEq] at h;exact⟨h.1,h.2.1⟩
theorem tok_tail(hP:TameProg Tryz.prog)(s:ByteArray)(f c:Nat)(w0 W:World)(cs:List Frame)(hs:¬8192<s.size)(hc:c=w0.heap.size)(hW:∃o,W=w0.alloc o){g:Goroutine}{w1:World}{ρ:Rn}{fr fr':Frame}{z z':Value}{ok:Bool}{v:World}
 (h:PipeEnd Tryz.prog (inF []) (inG []) f c cs W (Xc s f c) g w1 ρ fr fr' z z' ok v):Bes Tryz.prog (Leav Tryz.prog 40 (qg s w0) cs) g w1:=by
 obtain⟨o,rfl⟩:=hW
 obtain⟨a,b,sl,eG,ha,hw⟩:=h.end_
 obtain⟨rfl,_⟩:=zjJ eG
 have hcomm:=h.comm v.tape v.drawn;rw[vh s c b sl a _ ha] at hcomm;simp only[GStep.comm.injEq,true_and,CommShape.recv.injEq] at hcomm;obtain rfl:true=ok:=by
  have:=hcomm
  simp at this;exact this.2.symm
 have hT:=h.rel.tmps;have hsize:fr'.tmps.size=36:=by rw[<-hT.size];exact ha.size
 have get:∀(i:Nat) (x:Value),a.tmps[i]? =some x->∃y,fr'.tmps[i]? =some y/\VRel (inF []) ρ x y:=by
  intro i x hx;have hi:i<a.tmps.size:=(Array.getElem?_eq_some_iff.1 hx).1;have hi':i<fr'.tmps.size:=by rw[hsize,<-ha.size];exact hi
  exact⟨fr'.tmps[i],Array.getElem?_eq_getElem hi',hT.all i _ _ hx (Array.getElem?_eq_getElem hi')⟩
 obtain⟨sl',q6,v6⟩:=get 6 _ ha.s6
 obtain⟨x7,q7,v7⟩:=get 7 _ ha.s7
 obtain⟨x15,q15,v15⟩:=get 15 _ ha.s15
 obtain⟨b',hbb,rfl⟩:∃b',ρ b b'/\x7= .pointer (some ⟨b',0,none⟩):=by
  cases v7 with
  |pointer hx=>
   cases hx with
   | @some p p' hp=>
     obtain⟨k1,k2,k3⟩:=hp
     obtain⟨p1,p2,p3⟩:=p'
     simp only at k1 k2 k3
     subst k2;subst k3
     exact⟨p1,k1,rfl⟩
 obtain⟨c',rfl⟩:∃c',x15= .chan (some c'):=by
  cases v15 with
  |chan hx=>cases hx with| @some p p' hp=>exact⟨p',rfl⟩
 have ha':TokA s c' b' sl' {tmps:=fr'.tmps,defers:=[]}:=⟨hsize,q6,q7,q15,rfl⟩;have hfr:fr'=(base0 40).at {tmps:=fr'.tmps,defers:=[]} yI:=by
  have h1:=h.rel.fn;have h2:=h.rel.todo;have h3:=h.rel.defers;have h4:=h.rel.mode;have h5:=h.rel.round';have h6:=h.kind;have hd:((base0 40).at a yI).defers=[]:=ha.defers;rw[hd] at h3;obtain⟨f1,f2,f3,f4,f5,f6,f7⟩:=fr'
  simp only at h1 h2 h3 h4 h5 h6
  cases h3;have hm:MRel (inF []) ρ .run f5:=h4;cases hm;subst h1;subst h2;subst h5;subst h6
  rfl
 obtain⟨y0,y1,y2,y3,hbad⟩:=hw.bad
 have hk1:=zaG h.wrel hbb hbad.c4;have hk2:=zaG h.wrel hbb hbad.c5;have hlen:(pieces s).take (pieces s).length=pieces s:=List.take_length;rw[hlen] at hk1 hk2;have hcb:∀x y,ρ x y->w0.heap.size<=y:=by
  intro x y hxy;by_cases hy:y<(w0.alloc o).heap.size
  ·have:=h.old x y hxy hy;omega
  ·simp at hy;omega
 have hown:=owns_rel h.wrel (base':=w0.heap.size) hw.own v6 (zbi _) hcb;rw[hlen] at hown;have hkin:Kin w0 w1:=by
  have hsz:=h.grow;simp at hsz;refine⟨h.os,h.out,by omega,fun k hk=>?_⟩
  rw[h.keep k (by simp;omega) (by omega)]
  exact(World.grownBy_alloc w0 o none).block k hk (by simp)
 have hhere:=h.here;rw[hfr] at hhere;have hfin:((base0 40).at {tmps:=fr'.tmps,defers:=[]} yI).finish (recvd true z' false)=(base0 40).at (Act.put {tmps:=fr'.tmps,defers:=[]} (some 16) (.tuple #[z', .bool false])) (.inRegion ops8 [1]:: .code xM::qY):=by
  unfold yI;rw[Frame.finish_at];rfl
 rw[hfin] at hhere;subst hhere;have s2:∀w2,step Tryz.prog (lone ((base0 40).at (Act.put {tmps:=fr'.tmps,defers:=[]} (some 16) (.tuple #[z', .bool false])) (.inRegion ops8 [1]:: .code xM::qY)) cs w2)=_:=fun w2=>
  x6 (P:=Tryz.prog) (b:=base0 40) (a:=Act.put {tmps:=fr'.tmps,defers:=[]} (some 16) (.tuple #[z', .bool false])) (k:= .code xM::qY) (cs:=cs) (ops:=ops8) (i:=1) (rest:=[]) (w:=w2) (w':=w2) (v:= .bool false)
   (o:={dst:=some 17,op:=Op.extract (Operand.tmp 16) 1,type:=4,pos:= "lex.go:119",after:= #[{on:=0,ground:=Ground.data}],guard:=none}) rfl rfl (vx _ z' (.bool false) 16 _ _ rfl (by simp[Act.put,hsize]))
 refine head1 hP s2 ?_;refine head1 hP (fun w=>step_region_end) ?_;obtain⟨t0,t1,t2,t3,t4,t5,t8,t9,t10,t11,t12,t13,t14,t18,t19,t20,t21,t22,t23,t24,t25,t26,t27,t28,t29,t30,t31,t32,t33,t34,t35,he⟩:=wY ha' (.tuple #[z', .bool false]) (.bool false)
 rw[he];obtain⟨cnd,x1,y1,hitem⟩:∃x1 y1 z1,xM= .seq (.cond (.tmp 17) x1 (.exit 0)) y1/\z1=0:=⟨_,_,_,rfl,rfl⟩
 obtain⟨hitem,_⟩:=hitem
 rw[hitem];refine head1 hP (fun w=>step_seq) ?_;refine head1 hP (fun w=>step_cond (t:=false) rfl) ?_;refine head1 hP (fun w=>step_exit (k':=[.code vG]) rfl) ?_;exact js hP Tryz.func40 (fun _ h=>h) (fun T d=>zfg s w0 w1 b' c' sl' _ hs hkin hk1 hk2 hown T d t0 t1 t2 t3 t4 t5 t8 t9 t10 t11 t12 t13 t14 t18 t19 t20 t21 t22 t23 t24 t25 t26 t27 t28 t29 t30 t31 t32 t33 t34 t35) cs
open Go.ChangeShapes Go.WideShapes Go.ChangeAt Go.RowKit Go.Bsd
theorem zbP: "*" ++ "errors.errorString" = "*errors.errorString" :=by decide
theorem ziB(u:TypeId)(h:Tryz.prog.typeName? 3 u=some "*errors.errorString"):u=253:=
 typeName_ptr_named (nm:= "errors.errorString") (by rw[zbP];kernel_rfl) (by kernel_rfl) (by decide) u (by rw[zbP];exact h)
theorem wd{w:World}{a:Addr}{v:Value}(h:w.cell? a=some v):a=⟨a.block,a.off,none⟩:=by
 obtain⟨b,o,s⟩:=a
 cases s with
 |none=>rfl
 |some x=>
  exfalso;unfold World.cell? at h
  split at h<;>simp_all
theorem ut{W:World}{n:String}{g:Nat}{cs:Array Value}{fuel:Nat}{text:List UInt8}{p:List MemPlace}(hg:Tryz.prog.globalNamed n=some g)
 (hv:W.var? Tryz.prog n=some cs) (hd:DataW.trod (fun _=>()) Tryz.prog W 0 (fun _=>true) false fuel 27 cs.toList=some (.iface "*errors.errorString" (.ptr (.agg [.lit (.string text)])),p))
 (hok:∀u v,W.cell? ⟨g,0,none⟩=some (.iface u v)->Value.okWide Tryz.prog W .any 0 u v):
 ∃(a:Addr) (s:ByteArray),W.cell? ⟨g,0,none⟩=some (.iface 253 (.pointer (some a)))/\cs= #[.iface 253 (.pointer (some a))]/\W.cell? a=some (.string s)/\s.data.toList=text/\p=MemPlace.row a 1:=by
 obtain⟨l⟩:=cs
 have ok0:∀u v,l=[.iface u v]->Value.okWide Tryz.prog W .any 0 u v:=fun u v e=>by
  subst e;exact hok u v (by simpa using World.var?_cell hg hv 0)
 obtain⟨a,s,rfl,hc,hs,hz,rfl⟩:=errorString_of_trod Tryz.underlying27 ziB Tryz.underlying253 Tryz.underlying255 rfl rfl Tryz.underlying9 (by kernel_rfl) (by kernel_rfl) hd ok0
 exact⟨a,s,by simpa using World.var?_cell hg hv 0,rfl,hc,hs,rfl⟩
theorem uh{W:World}{n:String}{g:Nat}{cs:Array Value}(hg:Tryz.prog.globalNamed n=some g)(hv:W.var? Tryz.prog n=some cs):∃T fz,W.heap[g]? =some (.cells cs T fz):=by
 unfold World.var? at hv
 rw[hg] at hv;simp only[Option.bind_some] at hv
 split at hv
 ·rename_i c T fz h;cases hv;exact⟨T,fz,h⟩
 ·cases hv
theorem arr_laid{W:World}{n:String}{g:Nat}{cs:Array Value}{fuel m:Nat}{t e:TypeId}{k:IntKind}{x:DataW Unit×List MemPlace}(hg:Tryz.prog.globalNamed n=some g)(hv:W.var? Tryz.prog n=some cs)
 (ht:Tryz.prog.underlying t=some (.array m e)) (he:Tryz.prog.underlying e=some (.int k)) (hce:Tryz.prog.cellsOf e=1) (hct:Tryz.prog.cellsOf t=m)
 (hd:DataW.trod (fun _=>()) Tryz.prog W 0 (fun _=>true) false fuel t cs.toList=some x):∃cs T fz,W.heap[g]? =some (.cells cs T fz)/\∀v∈cs,PlainV v:=by
 obtain⟨T,fz,hh⟩:=uh hg hv
 refine⟨cs,T,fz,hh,fun v hvm=>?_⟩;obtain⟨xs,q,_,_,hlen,hxl,hel⟩:=DataW.trod_array ht hd
 obtain⟨i,hi,rfl⟩:=Array.mem_iff_getElem.1 hvm
 have hlen':cs.size=m:=by have:cs.toList.length=m:=hlen.trans hct;simpa using this
 have hE:=hel i (by omega)
 rw[hce,Nat.mul_one,List.getElem?_eq_getElem (by omega)] at hE
 obtain⟨z,e1,_,_⟩:=DataW.trod_int he hE
 have h0:((cs.toList.drop i).take 1)[0]? =some (.int k z):=by rw[e1];rfl
 have h1:cs[i]? =some (.int k z):=by simpa using h0
 rw[Array.getElem?_eq_getElem hi] at h1;rw[Option.some.inj h1];exact plainV_of 1 rfl
open Go.RowKit
structure ToksAt (l:List Item) (g:Nat) (w:World):Prop where
 kind:∀j t,l[j]? =some t->w.cell? ⟨g,j*4,none⟩=some (.int .i64 t.kind)
 text:∀j t,l[j]? =some t->w.cell? ⟨g,j*4+1,none⟩=some (.string t.text)
 num:∀j t,l[j]? =some t->w.cell? ⟨g,j*4+2,none⟩=some (.int .i64 t.num)
 pos:∀j t,l[j]? =some t->w.cell? ⟨g,j*4+3,none⟩=some (.int .i64 t.pos)
structure Ctx where
 l:List Item
 e:Int
 te:TypeId
 pe:Value
 r:Nat
 g:Nat
structure Rd (C:Ctx) (i:Nat) (w:World):Prop where
 list:∃b cap g,w.cell? ⟨C.r,0,none⟩=some (.slice b C.l.length cap)/\(C.l≠[]->b=some ⟨g,0,none⟩)/\C.l.length<=cap/\ToksAt C.l g w/\(C.l≠[]->g≠C.r)
 ci:w.cell? ⟨C.r,1,none⟩=some (.int .i64 i)
 end_:w.cell? ⟨C.r,2,none⟩=some (.int .i64 C.e)
 froz:w.frozen? ⟨C.r,1,none⟩=false
 le:i<=C.l.length
 len:C.l.length<=8193
 err:w.cell? ⟨0,0,none⟩=some (.iface C.te C.pe)
 pos:0<C.r
 tok:∀b n cap,w.cell? ⟨C.r,0,none⟩=some (.slice b n cap)->C.l≠[]->b=some ⟨C.g,0,none⟩
def placeOf(l:List Item)(e:Int)(i:Nat):Int:=match l[i]? with
 |some t=>t.pos
 |none=>e
theorem Rd.drewN{C:Ctx}{i:Nat}{w:World}(h:Rd C i w)(n:Nat):Rd C i (w.drewN n):=by
 obtain⟨⟨b,cap,g,h0,hb,hcap,ht,hg⟩,h1,h2,hf,hle,hlen,he,hp,hk⟩:=h
 exact⟨⟨b,cap,g,h0,hb,hcap,⟨ht.kind,ht.text,ht.num,ht.pos⟩,hg⟩,h1,h2,hf,hle,hlen,he,hp,hk⟩
theorem zet(C:Ctx)(i:Nat)(w:World)(h:Rd C i w):Calls Tryz.prog 78 #[.pointer (some ⟨C.r,0,none⟩)] w fun x w'=>x= .returned (.int .i64 (placeOf C.l C.e i))/\∃n,w'=w.drewN n:=by
 obtain⟨l,e,te,pe,r,gk⟩:=C
 obtain⟨⟨b,cap,g,h0,hb,hcap,ht,hg⟩,h1,h2,hf,hle,hlen,herr,hpos,htok⟩:=h
 clear htok;simp only at h0 hb hcap ht hg h1 h2 hf hle hlen herr hpos⊢
 by_cases hi:i<l.length
 ·obtain⟨t,hx⟩:∃t,l[i]? =some t:=⟨_,List.getElem?_eq_getElem hi⟩
  obtain rfl:=hb (by rintro rfl;simp at hi)
  have hp:=ht.pos i t hx;have hpl:placeOf l e i=t.pos:=by unfold placeOf;rw[hx]
  rw[hpl];clear hpl ht hb hg hx;go_enter Tryz.func78,Tryz.ntmps78;go_wp2_with fail;go_quiet (fail)
  go_wp2_with fail;go_quiet (fail)
  go_wp2;go_ret;exact⟨rfl,_,World.drewN_drewN _ _ _⟩
 ·have hpl:placeOf l e i=e:=by unfold placeOf;rw[List.getElem?_eq_none (by omega)]
  rw[hpl];clear hpl ht hb hg;go_enter Tryz.func78,Tryz.ntmps78;go_wp2_with fail;go_quiet (fail)
  go_wp2;go_ret;exact⟨rfl,_,rfl⟩
def zb(l:List Item)(i:Nat)(s:ByteArray):Bool:=match l[i]? with
 |some t=>decide (t.kind≠1)&&(t.text.toList==s.toList)
 |none=>false
theorem gD(C:Ctx)(i:Nat)(s:ByteArray)(w:World)(h:Rd C i w):Calls Tryz.prog 120 #[.pointer (some ⟨C.r,0,none⟩), .string s] w fun x w'=>x= .returned (.bool (zb C.l i s))/\∃n,w'=w.drewN n:=by
 obtain⟨l,e,te,pe,r,gk⟩:=C
 obtain⟨⟨b,cap,g,h0,hb,hcap,ht,hg⟩,h1,h2,hf,hle,hlen,herr,hpos,htok⟩:=h
 clear htok;simp only at h0 hb hcap ht hg h1 h2 hf hle hlen herr hpos⊢
 by_cases hi:i<l.length
 ·obtain⟨t,hx⟩:∃t,l[i]? =some t:=⟨_,List.getElem?_eq_getElem hi⟩
  obtain rfl:=hb (by rintro rfl;simp at hi)
  have hp:=ht.kind i t hx;have hq:=ht.text i t hx;have hpl:zb l i s=(decide (t.kind≠1)&&(t.text.toList==s.toList)):=by unfold zb;rw[hx]
  rw[hpl];clear hpl ht hb hg hx;by_cases hk:t.kind=1
  ·rw[hk] at hp⊢;clear hk;go_enter Tryz.func120,Tryz.ntmps120;go_wp2_with fail;go_quiet (fail)
   go_wp2;go_ret;exact⟨rfl,_,rfl⟩
  ·have hk1:(t.kind==1)=false:=by simp[hk]
   have hk2:(t.kind !=1)=true:=by simp[hk]
   have hk3:(decide (t.kind≠1)&&(t.text.toList==s.toList))=(t.text.toList==s.toList):=by simp[hk]
   rw[hk3];clear hk hk3;go_enter Tryz.func120,Tryz.ntmps120;go_wp2_with fail;go_quiet (fail)
   go_wp2;go_ret;exact⟨rfl,_,rfl⟩
 ·have hpl:zb l i s=false:=by unfold zb;rw[List.getElem?_eq_none (by omega)]
  have hdd:decide ((i:Int)<(l.length:Int))=false:=by simp;omega
  rw[hpl];clear hpl ht hb hg;go_enter Tryz.func120,Tryz.ntmps120;go_wp2_with fail;go_quiet (fail)
  go_wp2;go_ret;exact⟨rfl,_,rfl⟩
def zi(s:ByteArray):Bool:=[[118,97,114],[97,114,114,97,121],[105,110,112,117,116],[97,115,115,101,114,116],[115,107,105,112],[105,102],[101,108,115,101],[119,104,105,108,101],[116,114,117,101],[102,97,108,115,101]].any fun(x:List UInt8)=>s.toList==x
theorem xQ(s:ByteArray)(w:World):Calls Tryz.prog 156 #[.string s] w fun x w'=>x= .returned (.bool (zi s))/\w'=w:=by
 by_cases h0:(s.toList==[118,97,114])=true
 ·have hr:zi s=true:=by simp[zi,h0]
  rw[hr];clear hr;go_enter Tryz.func156,Tryz.ntmps156;go_wp2;go_ret;exact⟨rfl,rfl⟩
 ·have g0:(s.toList==[118,97,114])=false:=by simpa using h0
  clear h0;by_cases h1:(s.toList==[97,114,114,97,121])=true
  ·have hr:zi s=true:=by simp[zi,g0,h1]
   rw[hr];clear hr;go_enter Tryz.func156,Tryz.ntmps156;go_wp2;go_ret;exact⟨rfl,rfl⟩
  ·have g1:(s.toList==[97,114,114,97,121])=false:=by simpa using h1
   clear h1;by_cases h2:(s.toList==[105,110,112,117,116])=true
   ·have hr:zi s=true:=by simp[zi,g0,g1,h2]
    rw[hr];clear hr;go_enter Tryz.func156,Tryz.ntmps156;go_wp2;go_ret;exact⟨rfl,rfl⟩
   ·have g2:(s.toList==[105,110,112,117,116])=false:=by simpa using h2
    clear h2;by_cases h3:(s.toList==[97,115,115,101,114,116])=true
    ·have hr:zi s=true:=by simp[zi,g0,g1,g2,h3]
     rw[hr];clear hr;go_enter Tryz.func156,Tryz.ntmps156;go_wp2;go_ret;exact⟨rfl,rfl⟩
    ·have g3:(s.toList==[97,115,115,101,114,116])=false:=by simpa using h3
     clear h3;by_cases h4:(s.toList==[115,107,105,112])=true
     ·have hr:zi s=true:=by simp[zi,g0,g1,g2,g3,h4]
      rw[hr];clear hr;go_enter Tryz.func156,Tryz.ntmps156;go_wp2;go_ret;exact⟨rfl,rfl⟩
     ·have g4:(s.toList==[115,107,105,112])=false:=by simpa using h4
      clear h4;by_cases h5:(s.toList==[105,102])=true
      ·have hr:zi s=true:=by simp[zi,g0,g1,g2,g3,g4,h5]
       rw[hr];clear hr;go_enter Tryz.func156,Tryz.ntmps156;go_wp2;go_ret;exact⟨rfl,rfl⟩
      ·have g5:(s.toList==[105,102])=false:=by simpa using h5
       clear h5;by_cases h6:(s.toList==[101,108,115,101])=true
       ·have hr:zi s=true:=by simp[zi,g0,g1,g2,g3,g4,g5,h6]
        rw[hr];clear hr;go_enter Tryz.func156,Tryz.ntmps156;go_wp2;go_ret;exact⟨rfl,rfl⟩
       ·have g6:(s.toList==[101,108,115,101])=false:=by simpa using h6
        clear h6;by_cases h7:(s.toList==[119,104,105,108,101])=true
        ·have hr:zi s=true:=by simp[zi,g0,g1,g2,g3,g4,g5,g6,h7]
         rw[hr];clear hr;go_enter Tryz.func156,Tryz.ntmps156;go_wp2;go_ret;exact⟨rfl,rfl⟩
        ·have g7:(s.toList==[119,104,105,108,101])=false:=by simpa using h7
         clear h7;by_cases h8:(s.toList==[116,114,117,101])=true
         ·have hr:zi s=true:=by simp[zi,g0,g1,g2,g3,g4,g5,g6,g7,h8]
          rw[hr];clear hr;go_enter Tryz.func156,Tryz.ntmps156;go_wp2;go_ret;exact⟨rfl,rfl⟩
         ·have g8:(s.toList==[116,114,117,101])=false:=by simpa using h8
          clear h8;by_cases h9:(s.toList==[102,97,108,115,101])=true
          ·have hr:zi s=true:=by simp[zi,g0,g1,g2,g3,g4,g5,g6,g7,g8,h9]
           rw[hr];clear hr;go_enter Tryz.func156,Tryz.ntmps156;go_wp2;go_ret;exact⟨rfl,rfl⟩
          ·have g9:(s.toList==[102,97,108,115,101])=false:=by simpa using h9
           clear h9;have hr:zi s=false:=by simp[zi,g0,g1,g2,g3,g4,g5,g6,g7,g8,g9]
           rw[hr];clear hr;go_enter Tryz.func156,Tryz.ntmps156;go_wp2;go_ret;exact⟨rfl,rfl⟩
def zO(l:List Item)(i:Nat):Bool:=match l[i]? with
 |some t=>decide (t.kind=0)&&!zi t.text
 |none=>false
theorem vn(C:Ctx)(i:Nat)(w:World)(h:Rd C i w):Calls Tryz.prog 121 #[.pointer (some ⟨C.r,0,none⟩)] w fun x w'=>x= .returned (.bool (zO C.l i))/\∃n,w'=w.drewN n:=by
 obtain⟨l,e,te,pe,r,gk⟩:=C
 obtain⟨⟨b,cap,g,h0,hb,hcap,ht,hg⟩,h1,h2,hf,hle,hlen,herr,hpos,htok⟩:=h
 clear htok;simp only at h0 hb hcap ht hg h1 h2 hf hle hlen herr hpos⊢
 by_cases hi:i<l.length
 ·obtain⟨t,hx⟩:∃t,l[i]? =some t:=⟨_,List.getElem?_eq_getElem hi⟩
  obtain rfl:=hb (by rintro rfl;simp at hi)
  have hp:=ht.kind i t hx;have hq:=ht.text i t hx;have hpl:zO l i=(decide (t.kind=0)&&!zi t.text):=by unfold zO;rw[hx]
  rw[hpl];clear hpl ht hb hg hx;by_cases hk:t.kind=0
  ·rw[hk] at hp⊢;clear hk;go_enter Tryz.func121,Tryz.ntmps121;go_wp2_with fail;go_quiet ((go_at_call 156;exact Calls.quiet_of_same (xQ _ _)))
   go_wp2;go_ret;exact⟨rfl,_,rfl⟩
  ·have hk1:(t.kind==0)=false:=by simp[hk]
   have hk2:(t.kind !=0)=true:=by simp[hk]
   have hk3:(decide (t.kind=0)&&!zi t.text)=false:=by simp[hk]
   rw[hk3];clear hk hk3;go_enter Tryz.func121,Tryz.ntmps121;go_wp2_with fail;go_quiet (fail)
   go_wp2;go_ret;exact⟨rfl,_,rfl⟩
 ·have hpl:zO l i=false:=by unfold zO;rw[List.getElem?_eq_none (by omega)]
  have hdd:decide ((i:Int)<(l.length:Int))=false:=by simp;omega
  rw[hpl];clear hpl ht hb hg;go_enter Tryz.func121,Tryz.ntmps121;go_wp2_with fail;go_quiet (fail)
  go_wp2;go_ret;exact⟨rfl,_,rfl⟩
abbrev Grew(C:Ctx)(w w':World):Prop:=w.grownBy w' (some C.r)
def qJ(C:Ctx)(w:World)(p:Int)(ch:List PanicEntry)(w':World):Prop:=
 ∃q,ch=[{v:= .iface 71 (.pointer (some ⟨q,0,none⟩)),recovered:=false}]/\w.heap.size<=q/\w'.heap[q]? =some (.cells #[.int .i64 30, .int .i64 p, .iface C.te C.pe] 73 (0,0))/\Grew C w w'
inductive Res (α:Type) where
 |ok (a:α) (j:Nat)
 |no (p:Int)
def zI{α:Type}(C:Ctx)(w:World)(r:Res α)(val:α->Value->World->Prop):Ending->World->Prop
 | .returned v,w'=>∃a j,r= .ok a j/\val a v w'/\Rd C j w'/\Grew C w w'
 | .panicked ch,w'=>∃p,r= .no p/\qJ C w p ch w'
 | .outgrown,_=>False
theorem Rd.lt{C:Ctx}{i:Nat}{w:World}(h:Rd C i w):C.r<w.heap.size:=World.block_lt_of_cell? w ⟨C.r,1,none⟩ h.ci
theorem Rd.lt0{C:Ctx}{i:Nat}{w:World}(h:Rd C i w):0<w.heap.size:=World.block_lt_of_cell? w ⟨0,0,none⟩ h.err
theorem ToksAt.of{l:List Item}{g:Nat}{w w':World}(h:ToksAt l g w)(hk:l≠[]->∀o,w'.cell? ⟨g,o,none⟩=w.cell? ⟨g,o,none⟩):ToksAt l g w':=by
 have ne:∀{j:Nat} {t:Item},l[j]? =some t->l≠[]:=by rintro j t hj rfl;simp at hj
 exact⟨fun j t hj=>(hk (ne hj) _).trans (h.kind j t hj),fun j t hj=>(hk (ne hj) _).trans (h.text j t hj),fun j t hj=>(hk (ne hj) _).trans (h.num j t hj),fun j t hj=>(hk (ne hj) _).trans (h.pos j t hj)⟩
theorem Rd.glt{C:Ctx}{i:Nat}{w:World}{g:Nat}(h:ToksAt C.l g w)(hne:C.l≠[]):g<w.heap.size:=by
 cases hl:C.l with
 |nil=>exact absurd hl hne
 |cons t l=>exact World.block_lt_of_cell? w ⟨g,0*4,none⟩ (h.kind 0 t (by rw[hl];rfl))
theorem Rd.kept{C:Ctx}{i:Nat}{w w':World}(h:Rd C i w)(hk:∀k,k<w.heap.size->w'.heap[k]? =w.heap[k]?):Rd C i w':=by
 have hr:=h.lt;have h0:=h.lt0;obtain⟨⟨b,cap,g,a0,hb,hcap,ht,hg⟩,a1,a2,af,hle,hlen,he,hp,hk0⟩:=h
 have c:∀n o,n<w.heap.size->w'.cell? ⟨n,o,none⟩=w.cell? ⟨n,o,none⟩:=fun n o hn=>World.cell?_of_block (a:=⟨n,o,none⟩) (hk n hn);have f:∀n o,n<w.heap.size->w'.frozen? ⟨n,o,none⟩=w.frozen? ⟨n,o,none⟩:=fun n o hn=>World.frozen?_of_block (a:=⟨n,o,none⟩) (hk n hn);exact⟨⟨b,cap,g,(c _ _ hr).trans a0,hb,hcap,ht.of fun hne o=>c _ _ (Rd.glt (i:=i) ht hne),hg⟩,(c _ _ hr).trans a1,(c _ _ hr).trans a2,(f _ _ hr).trans af,hle,hlen,(c _ _ h0).trans he,hp,fun b n cap hb=>hk0 b n cap ((c _ _ hr).symm.trans hb)⟩
theorem Rd.below{C:Ctx}{i:Nat}{w w':World}(h:Rd C i w)(hb:Below w.heap.size w w'):Rd C i w':=h.kept hb.block
theorem Rd.alloc{C:Ctx}{i:Nat}{w:World}(h:Rd C i w)(o:Obj):Rd C i (w.alloc o):=h.kept fun k hk=>(World.grownBy_alloc w o none).block k hk (by simp)
theorem Rd.gtok{C:Ctx}{i:Nat}{w:World}(h:Rd C i w)(hne:C.l≠[]):C.g<w.heap.size:=by
 obtain⟨b,cap,g,a0,hb,hcap,ht,hg⟩:=h.list
 have h1:=hb hne;have h2:=h.tok _ _ _ a0 hne;rw[h1] at h2;have:g=C.g:=by simpa using h2
 rw[<-this];exact Rd.glt (i:=i) ht hne
theorem Rd.set{C:Ctx}{i i0:Nat}{w0 w:World}(h0:Rd C i0 w0)(h:Rd C i w){N:Nat}(hN:w0.heap.size<=N)(o:Nat)(v:Value):Rd C i (w.setCell ⟨N,o,none⟩ v):=by
 have k1:=h0.lt;have k2:=h0.lt0;have k3:=h0.gtok;have hg':∀b cap g,w.cell? ⟨C.r,0,none⟩=some (.slice b C.l.length cap)->(C.l≠[]->b=some ⟨g,0,none⟩)->C.l≠[]->g≠N:=by
  intro b cap g h1 h2 hne;have h3:=h.tok _ _ _ h1 hne;rw[h2 hne] at h3;have:g=C.g:=by simpa using h3
  have:=k3 hne
  omega
 have hs:=zB w N o v;have c:∀n x,n≠N->(w.setCell ⟨N,o,none⟩ v).cell? ⟨n,x,none⟩=w.cell? ⟨n,x,none⟩:=fun n x hn=>by
  unfold World.cell?
  rw[show(⟨n,x,none⟩:Addr).block=n from rfl,Below.heap_setCell _ _ _ _ (by simpa using hn)]
 have f:∀n x,n≠N->(w.setCell ⟨N,o,none⟩ v).frozen? ⟨n,x,none⟩=w.frozen? ⟨n,x,none⟩:=fun n x hn=>by
  unfold World.frozen?
  rw[show(⟨n,x,none⟩:Addr).block=n from rfl,Below.heap_setCell _ _ _ _ (by simpa using hn)]
 obtain⟨⟨b,cap,g,a0,hb,hcap,ht,hg⟩,a1,a2,af,hle,hlen,he,hp,hk0⟩:=h
 exact⟨⟨b,cap,g,(c _ _ (by omega)).trans a0,hb,hcap,ht.of fun hne x=>c _ _ (hg' b cap g a0 hb hne),hg⟩,(c _ _ (by omega)).trans a1,(c _ _ (by omega)).trans a2,(f _ _ (by omega)).trans af,hle,hlen,(c _ _ (by omega)).trans he,hp,fun b n cap hb=>hk0 b n cap ((c _ _ (by omega)).symm.trans hb)⟩
theorem Rd.next{C:Ctx}{i:Nat}{w:World}(h:Rd C i w){j:Nat}(hj:j<=C.l.length):Rd C j (w.setCell ⟨C.r,1,none⟩ (.int .i64 j)):=by
 obtain⟨⟨b,cap,g,a0,hb,hcap,ht,hg⟩,a1,a2,af,hle,hlen,he,hp,hk0⟩:=h
 have hk:=zB w C.r 1 (.int .i64 j);have c:∀n o,n≠C.r->(w.setCell ⟨C.r,1,none⟩ (.int .i64 j)).cell? ⟨n,o,none⟩=w.cell? ⟨n,o,none⟩:=fun n o hn=>by
  simp[go_sem,hn]
 refine⟨⟨b,cap,g,by simp[go_sem,a0],hb,hcap,ht.of fun hne o=>c _ _ (hg hne),hg⟩,by simp[go_sem,a1],by simp[go_sem,a2],by simp[go_sem,af],hj,hlen,(c _ _ (by omega)).trans he,hp,fun b n cap hb=>hk0 b n cap (by simpa [go_sem,a0] using hb)⟩
theorem zaF{l:List Item}{i:Nat}{s:ByteArray}(h:zb l i s=true):i<l.length:=by
 unfold zb at h
 split at h
 ·rename_i t ht;exact(List.getElem?_eq_some_iff.1 ht).1
 ·cases h
theorem named_lt{l:List Item}{i:Nat}(h:zO l i=true):i<l.length:=by
 unfold zO at h
 split at h
 ·rename_i t ht;exact(List.getElem?_eq_some_iff.1 ht).1
 ·cases h
theorem grew_next{C:Ctx}(w:World)(n:Nat)(v:Value):Grew C w ((w.drewN n).setCell ⟨C.r,1,none⟩ v):=by
 have h:=zB (w.drewN n) C.r 1 v;exact⟨h.os,h.tape,h.output,h.size,h.block⟩
theorem zcR{C:Ctx}(w:World)(n m:Nat)(v:Value):Grew C w (((w.drewN n).setCell ⟨C.r,1,none⟩ v).drewN m):=by
 have h:=zB (w.drewN n) C.r 1 v;exact⟨h.os,h.tape,h.output,h.size,h.block⟩
theorem skip_yes(C:Ctx)(i:Nat)(s:ByteArray)(w:World)(h:Rd C i w)(hc:zb C.l i s=true):Calls Tryz.prog 79 #[.pointer (some ⟨C.r,0,none⟩), .string s] w fun x w'=>x= .returned (.bool true)/\Rd C (i+1) w'/\Grew C w w':=by
 have hlt:=zaF hc;have hcom:=gD C i s w h;rw[hc] at hcom;have hN:=fun n=>(h.drewN n).next (j:=i+1) hlt;have HN:=Lib.hid hN;have q1:=h.ci;have qf:=h.froz;have hl:=h.len;clear hc hN h;go_enter Tryz.func79,Tryz.ntmps79;go_wp2_with (go_at_call 120;refine(hcom).mono ?_;rintro e w' ⟨rfl,n,rfl⟩);go_ret;rename_i n;exact⟨rfl,HN.out n,grew_next w n _⟩
theorem skip_no(C:Ctx)(i:Nat)(s:ByteArray)(w:World)(h:Rd C i w)(hc:zb C.l i s=false):Calls Tryz.prog 79 #[.pointer (some ⟨C.r,0,none⟩), .string s] w fun x w'=>x= .returned (.bool false)/\∃n,w'=w.drewN n:=by
 have hcom:=gD C i s w h;rw[hc] at hcom;clear hc h;go_enter Tryz.func79,Tryz.ntmps79;go_wp2_with (go_at_call 120;refine(hcom).mono ?_;rintro e w' ⟨rfl,n,rfl⟩);go_ret;exact⟨rfl,_,rfl⟩
theorem refused_any(k p:Int)(te:TypeId)(pe:Value)(w:World)(h:w.cell? ⟨0,0,none⟩=some (.iface te pe)):Calls Tryz.prog 41 #[.int .i64 k, .int .i64 p] w fun x w'=>x= .returned (.pointer (some ⟨w.heap.size,0,none⟩))/\w'=w.alloc (.cells #[.int .i64 k, .int .i64 p, .iface te pe] 73):=by
 go_enter Tryz.func41,Tryz.ntmps41;go_wp2;go_ret;exact⟨rfl,rfl⟩
theorem kE(C:Ctx)(i:Nat)(w:World)(h:Rd C i w):Calls Tryz.prog 85 #[.pointer (some ⟨C.r,0,none⟩)] w fun x w'=>∃ch,x= .panicked ch/\qJ C w (placeOf C.l C.e i) ch w':=by
 have hat:=zet C i w h;have he:=h.err;have hr:=h.lt;clear h;go_enter Tryz.func85,Tryz.ntmps85;go_wp2_with (first|(go_at_call 78;refine(hat).mono ?_;rintro e w' ⟨rfl,n,rfl⟩)|(go_at_call 41;refine(refused_any _ _ C.te C.pe _ (by first|exact he|simpa using he)).mono ?_;rintro e w' ⟨rfl,rfl⟩));refine⟨rfl,_,rfl,w.heap.size,rfl,Nat.le_refl _,heap_alloc_new (w.drewN n) _,?_⟩;have h:=World.grownBy_alloc (w.drewN n) (Obj.cells #[Value.int IntKind.i64 30,Value.int IntKind.i64 (placeOf C.l C.e i),Value.iface C.te C.pe] 73) (some C.r);exact⟨h.os,h.tape,h.output,h.size,h.block⟩
theorem qJ.later{C:Ctx}{w w1 w':World}{p:Int}{ch:List PanicEntry}(hg:Grew C w w1)(h:qJ C w1 p ch w'):qJ C w p ch w':=by
 obtain⟨q,h1,h2,h3,h4⟩:=h
 exact⟨q,h1,Nat.le_trans hg.size h2,h3,grown_trans hg h4⟩
theorem Grew.drewN{C:Ctx}(w:World)(n:Nat):Grew C w (w.drewN n):=⟨rfl,rfl,rfl,Nat.le_refl _,fun _ _ _=>rfl⟩
def textAt(l:List Item)(i:Nat):ByteArray:=match l[i]? with
 |some t=>t.text
 |none=>⟨#[]⟩
def xK(l:List Item)(i:Nat):Bool:=match l[i]? with
 |some t=>decide (t.kind=1)
 |none=>false
def numAtT(l:List Item)(i:Nat):Int:=match l[i]? with
 |some t=>t.num
 |none=>0
theorem zhy{l:List Item}{i:Nat}(h:xK l i=true):i<l.length:=by
 unfold xK at h
 split at h
 ·rename_i t ht;exact(List.getElem?_eq_some_iff.1 ht).1
 ·cases h
theorem Rd.cells{C:Ctx}{i:Nat}{w:World}(h:Rd C i w)(hi:i<C.l.length):∃g cap,w.cell? ⟨C.r,0,none⟩=some (.slice (some ⟨g,0,none⟩) C.l.length cap)/\C.l.length<=cap/\g≠C.r/\
 (∀t,C.l[i]? =some t->w.cell? ⟨g,i*4,none⟩=some (.int .i64 t.kind)/\w.cell? ⟨g,i*4+1,none⟩=some (.string t.text)/\w.cell? ⟨g,i*4+2,none⟩=some (.int .i64 t.num)/\w.cell? ⟨g,i*4+3,none⟩=some (.int .i64 t.pos)):=by
 obtain⟨⟨b,cap,g,h0,hb,hcap,ht,hg⟩,_⟩:=h
 have hne:C.l≠[]:=by rintro e;rw[e] at hi;simp at hi
 obtain rfl:=hb hne;exact⟨g,cap,h0,hcap,hg hne,fun t hx=>⟨ht.kind i t hx,ht.text i t hx,ht.num i t hx,ht.pos i t hx⟩⟩
theorem name_yes(C:Ctx)(i:Nat)(w:World)(h:Rd C i w)(hc:zO C.l i=true):Calls Tryz.prog 81 #[.pointer (some ⟨C.r,0,none⟩)] w fun x w'=>x= .returned (.string (textAt C.l i))/\Rd C (i+1) w'/\Grew C w w':=by
 have hlt:=named_lt hc;have hcom:=vn C i w h;rw[hc] at hcom;have hN:=fun n=>(h.drewN n).next (j:=i+1) hlt;have HN:=Lib.hid hN;obtain⟨g,cap,q0,hcap,hg,hx⟩:=h.cells hlt
 obtain⟨t,ht⟩:∃t,C.l[i]? =some t:=⟨_,List.getElem?_eq_getElem hlt⟩
 obtain⟨x0,x1,x2,x3⟩:=hx t ht
 have q1:=h.ci;have qf:=h.froz;have hl:=h.len;have e:textAt C.l i=t.text:=by unfold textAt;rw[ht]
 rw[e];clear hc hN h hx ht e x0 x2 x3;go_enter Tryz.func81,Tryz.ntmps81;go_wp2_with (go_at_call 121;refine(hcom).mono ?_;rintro e w' ⟨rfl,n,rfl⟩);have hg':¬C.r=g:=fun e=>hg e.symm;go_quiet (fail)
 go_wp2;go_ret;have g1:=grew_next (C:=C) w n (.int .i64 (↑i+1));exact⟨rfl,(HN.out n).drewN _,⟨g1.os,g1.tape,g1.output,g1.size,g1.block⟩⟩
theorem name_no(C:Ctx)(i:Nat)(w:World)(h:Rd C i w)(hc:zO C.l i=false):Calls Tryz.prog 81 #[.pointer (some ⟨C.r,0,none⟩)] w fun x w'=>∃ch,x= .panicked ch/\qJ C w (placeOf C.l C.e i) ch w':=by
 have hcom:=vn C i w h;rw[hc] at hcom;have hF:=fun n=>kE C i _ (h.drewN n);clear hc h;go_enter Tryz.func81,Tryz.ntmps81;go_wp2_with (first|(go_at_call 121;refine(hcom).mono ?_;rintro e w' ⟨rfl,n,rfl⟩)|(go_at_call 85;refine(hF _).mono ?_;rintro e w' ⟨ch,rfl,hF2⟩));exact⟨rfl,_,rfl,hF2.later (Grew.drewN w _)⟩
theorem number_yes(C:Ctx)(i:Nat)(w:World)(h:Rd C i w)(hc:xK C.l i=true):Calls Tryz.prog 83 #[.pointer (some ⟨C.r,0,none⟩)] w fun x w'=>x= .returned (.int .i64 (numAtT C.l i))/\Rd C (i+1) w'/\Grew C w w':=by
 have hlt:=zhy hc;have hN:=fun n=>(h.drewN n).next (j:=i+1) hlt;have HN:=Lib.hid hN;obtain⟨g,cap,q0,hcap,hg,hx⟩:=h.cells hlt
 obtain⟨t,ht⟩:∃t,C.l[i]? =some t:=⟨_,List.getElem?_eq_getElem hlt⟩
 obtain⟨x0,x1,x2,x3⟩:=hx t ht
 have q1:=h.ci;have qf:=h.froz;have hl:=h.len;have e:numAtT C.l i=t.num:=by unfold numAtT;rw[ht]
 have hk:t.kind=1:=by unfold xK at hc;rw[ht] at hc;simpa using hc
 rw[hk] at x0;rw[e];have hdd:decide ((C.l.length:Int)<=(i:Int))=false:=by simp;omega
 clear hc hN h hx ht e x1 x3 hk;go_enter Tryz.func83,Tryz.ntmps83;go_wp2_with fail;go_quiet (fail)
 go_wp2_with fail;have hg':¬C.r=g:=fun e=>hg e.symm;go_quiet (fail)
 go_wp2;go_ret;exact⟨rfl,(HN.out _).drewN _,zcR _ _ _ _⟩
theorem number_no(C:Ctx)(i:Nat)(w:World)(h:Rd C i w)(hc:xK C.l i=false):Calls Tryz.prog 83 #[.pointer (some ⟨C.r,0,none⟩)] w fun x w'=>∃ch,x= .panicked ch/\qJ C w (placeOf C.l C.e i) ch w':=by
 have hF:=fun n=>kE C i _ (h.drewN n);by_cases hlt:i<C.l.length
 ·obtain⟨g,cap,q0,hcap,hg,hx⟩:=h.cells hlt
  obtain⟨t,ht⟩:∃t,C.l[i]? =some t:=⟨_,List.getElem?_eq_getElem hlt⟩
  obtain⟨x0,x1,x2,x3⟩:=hx t ht
  have q1:=h.ci;have hl:=h.len;have hk:t.kind≠1:=by unfold xK at hc;rw[ht] at hc;simpa using hc
  have hk1:(t.kind==1)=false:=by simp[hk]
  have hk2:(t.kind !=1)=true:=by simp[hk]
  have hdd:decide ((C.l.length:Int)<=(i:Int))=false:=by simp;omega
  clear hc h hx ht x1 x3 hk;go_enter Tryz.func83,Tryz.ntmps83;go_wp2_with fail;go_quiet (fail)
  go_wp2_with (go_at_call 85;refine(hF _).mono ?_;rintro e w' ⟨ch,rfl,hF2⟩);exact⟨rfl,_,rfl,hF2.later (Grew.drewN w _)⟩
 ·obtain⟨⟨b,cap,g,q0,hb,hcap,ht,hg⟩,q1,q2,qf,hle,hlen,herr,hpos,htok⟩:=h
  clear htok;have hdd:decide ((C.l.length:Int)<=(i:Int))=true:=by simp;omega
  clear hb ht hg;go_enter Tryz.func83,Tryz.ntmps83;go_wp2_with fail;go_quiet (fail)
  go_wp2_with (go_at_call 85;refine(hF _).mono ?_;rintro e w' ⟨ch,rfl,hF2⟩);exact⟨rfl,_,rfl,hF2.later (Grew.drewN w _)⟩
structure Nd where
 depth:Int
 kind:Int
 name:ByteArray
 num:Int
 op:Int
 at_:Int
def Nd.cells(n:Nd):List Value:=[.int .i64 n.depth, .int .i64 n.kind, .string n.name, .int .i64 n.num, .int .i64 n.op, .int .i64 n.at_]
theorem leaf_any(n:Nd)(b:Option Addr)(k cap:Nat)(w:World):Calls Tryz.prog 80 #[.agg #[.int .i64 n.depth, .int .i64 n.kind, .string n.name, .int .i64 n.num, .int .i64 n.op, .int .i64 n.at_], .slice b k cap] w fun x w'=>x= .returned (.pointer (some ⟨w.heap.size+1,0,none⟩))/\
 w'=(w.alloc (.cells #[.int .i64 n.depth, .int .i64 n.kind, .string n.name, .int .i64 n.num, .int .i64 n.op, .int .i64 n.at_] 50)).alloc (.cells #[.int .i64 n.depth, .int .i64 n.kind, .string n.name, .int .i64 n.num, .int .i64 n.op, .int .i64 n.at_, .slice b k cap] 148):=by
 go_enter Tryz.func80,Tryz.ntmps80;go_wp2;go_ret;exact⟨rfl,rfl⟩
theorem ze9(C:Ctx)(i:Nat)(s:ByteArray)(p:Nat)(w:World)(h:Rd C i w)(hp:w.cell? ⟨p,0,none⟩=some (.string s))(hc:zb C.l i s=true):Calls Tryz.prog 82 #[.pointer (some ⟨C.r,0,none⟩), .slice (some ⟨p,0,none⟩) 1 1] w fun x w'=>x= .returned (.tuple #[])/\Rd C (i+1) w'/\Grew C w w':=by
 have hS:=skip_yes C i s w h hc;clear h hc;go_enter Tryz.func82,Tryz.ntmps82;go_wp2;go_loopg [8] 2 (fun g x wr=>(x= .int .i64 0/\g=2/\wr=w)\/(x= .int .i64 1/\g=1/\Rd C (i+1) wr/\Grew C w wr))
 case atStart=>exact .inl ⟨rfl,rfl,rfl⟩
 case round=>
  rcases hrel with⟨rfl,rfl,rfl⟩|⟨rfl,rfl,hR,hG⟩
  ·go_wp2_with (go_at_call 79;refine(hS).mono ?_;rintro e w' ⟨rfl,hR,hG⟩);go_roundg 1
   case measure=>omega
   case rel=>exact .inr ⟨rfl,rfl,hR,hG⟩
  ·have HR:=Lib.hid hR;have HG:=Lib.hid hG;clear hR hG hS hp;go_wp2;exact⟨rfl, .tuple #[],by simp[results,Tryz.f82],rfl,HR.out,HG.out⟩
theorem zhe(C:Ctx)(i:Nat)(s:ByteArray)(p:Nat)(w:World)(h:Rd C i w)(hp:w.cell? ⟨p,0,none⟩=some (.string s))(hc:zb C.l i s=false):Calls Tryz.prog 82 #[.pointer (some ⟨C.r,0,none⟩), .slice (some ⟨p,0,none⟩) 1 1] w fun x w'=>∃ch,x= .panicked ch/\qJ C w (placeOf C.l C.e i) ch w':=by
 have hS:=skip_no C i s w h hc;have hF:=fun n=>kE C i _ (h.drewN n);clear h hc;go_enter Tryz.func82,Tryz.ntmps82;go_wp2;go_loopg [8] 2 (fun g x wr=>x= .int .i64 0/\g=2/\wr=w)
 case atStart=>exact⟨rfl,rfl,rfl⟩
 case round=>
  obtain⟨rfl,rfl,rfl⟩:=hrel
  go_wp2_with (first|(go_at_call 79;refine(hS).mono ?_;rintro e w' ⟨rfl,n,rfl⟩)|(go_at_call 85;refine(hF _).mono ?_;rintro e w' ⟨ch,rfl,hF2⟩));exact⟨rfl,_,rfl,hF2.later (Grew.drewN _ _)⟩
end Go.Proofs.YtonmcakdofbjiaaGreatDoor
