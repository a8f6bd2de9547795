/- A part. -/
import Derived.Test.YtonmcakdofbjiaaGreatDoorM20
import Derived.Laws.StructEq
import Derived.Test.YtonmcakdofbjiaaGreatDoorM19
import Derived.Test.YtonmcakdofbjiaaGreatDoorM17
import Derived.Deep.Onto
import Derived.StillTailTactics
import Derived.Test.YtonmcakdofbjiaaGreatDoorM18
import Derived.Laws.AppendOwnNone
import Derived.Deep.AppendLies
import Derived.Deep.Cut
import Derived.Deep.LoopGhost
import Derived.Test.YtonmcakdofbjiaaGreatDoorM15
import Derived.Deep.RegionWith
import Derived.BigRegion
import Derived.Deep.RegionHeld3
import Derived.Shelf.Strconv.Itoa0
import Derived.Shelf.Strconv.Itoa1
import Derived.Shelf.LaysM
import Derived.Shelf.Strconv.Itoa2
import Derived.Shelf.Strconv.Itoa3
import Derived.Shelf.LaysC
import Derived.Test.YtonmcakdofbjiaaGreatDoorProg
import Derived.Lib.SmallJoins
import Derived.Lib.ItoaLen
set_option linter.all false
set_option maxRecDepth 100000
set_option maxHeartbeats 8000000
namespace Go.Proofs.YtonmcakdofbjiaaGreatDoor
open Go.RowKit
instance:DecidableEq Nd:=fun a b=>decidable_of_iff (a.depth=b.depth/\a.kind=b.kind/\a.name=b.name/\a.num=b.num/\a.op=b.op/\a.at_=b.at_) (by cases a;cases b;simp)
theorem guard50:Tryz.prog.eqGuardType Tryz.prog.depth 50=false:=by kernel_rfl
theorem zi1:Tryz.prog.stoodInHeld 50=false:=by kernel_rfl
theorem zfl:Tryz.prog.underlying 50=some (.struct (Tryz.prog.fieldsOf 50)):=by kernel_rfl
theorem eq50(a1 a2:Int)(a3:ByteArray)(a4 a5 a6 b1 b2:Int)(b3:ByteArray)(b4 b5 b6:Int)(w:World):(Op.equalIn 10000 50 (.agg #[.int .i64 a1, .int .i64 a2, .string a3, .int .i64 a4, .int .i64 a5, .int .i64 a6]) (.agg #[.int .i64 b1, .int .i64 b2, .string b3, .int .i64 b4, .int .i64 b5, .int .i64 b6])).run Tryz.prog w= .ok (decide (Nd.mk a1 a2 a3 a4 a5 a6=Nd.mk b1 b2 b3 b4 b5 b6)) w:=by
 rw[show(10000:Nat)=9999+1 from rfl,run_equalIn_agg w 9999 50 _ _ zfl zi1];simp only[Program.fieldsOf,Tryz.underlying50];simp[go_sem,Op.eqFields];have hx:(a3.toList=b3.toList)↔a3=b3:=by
  constructor
  ·intro h;rw[ByteArray.toList_eq,ByteArray.toList_eq] at h;obtain⟨⟨x⟩⟩:=a3
   obtain⟨⟨y⟩⟩:=b3
   have h':x=y:=h;rw[h']
  ·rintro rfl;rfl
 by_cases h1:a1=b1<;>by_cases h2:a2=b2<;>by_cases h3:a3=b3<;>by_cases h4:a4=b4<;>by_cases h5:a5=b5<;>by_cases h6:a6=b6<;>simp[h1,h2,h3,h4,h5,h6,hx]
theorem NodesAt.at{w:World}{b:Option Addr}{n cap:Nat}{l:List Nd}(h:NodesAt w (.slice b n cap) l)(hl:l≠[]):∃g off,b=some ⟨g,off,none⟩/\∀(j:Nat) (n:Nd),l[j]? =some n->∀(k:Nat) (c:Value),n.cells[k]? =some c->w.cell? ⟨g,off+j*6+k,none⟩=some c:=by
 obtain⟨b',cap',h1,h2,h3⟩:=h
 cases h1;exact h3 hl
theorem same_any(l1 l2:List Nd)(hl1:l1.length<=9223372036854775807)(hl2:l2.length<=9223372036854775807)(v1 v2:Value)(w:World)(h1:NodesAt w v1 l1)(h2:NodesAt w v2 l2):
 Calls Tryz.prog 16 #[v1,v2] w fun e w'=>e= .returned (.bool (decide (l1=l2)))/\Kin w w':=by
 have HN1:=Lib.hid h1;have HN2:=Lib.hid h2;obtain⟨b1,cap1,rfl,hcap1,hne1⟩:=h1
 obtain⟨b2,cap2,rfl,hcap2,hne2⟩:=h2
 clear hne1 hne2;by_cases hlen:l1.length=l2.length
 ·have hd:((l1.length:Int)!=(l2.length:Int))=false:=by simp[hlen]
  have HLEN:=Lib.hid hlen;clear hlen;generalize hR:decide (l1=l2)=R;have HR:=Lib.hid hR;clear hR;go_enter Tryz.func16,Tryz.ntmps16;go_wp2_with fail;go_loopg [5] l1.length (fun g x wq=>∃k:Nat,x= .int .i64 k/\k<=l1.length/\g=l1.length-k/\Kin w wq/\∀j,j<k->l1[j]? =l2[j]?)
  case atStart=>exact⟨0,rfl,Nat.zero_le _,rfl,Kin.refl _,fun j hj=>by omega⟩
  case round=>
   obtain⟨k,rfl,hk,hg,hK,hsame⟩:=hrel
   have HG:=Lib.hid hg;have HK:=Lib.hid hK;have HS:=Lib.hid hsame;clear hg hK hsame;by_cases hlk:k<l1.length
   ·have hlk2:k<l2.length:=by have:=HLEN.out;omega
    obtain⟨⟨a1,a2,a3,a4,a5,a6⟩,hu1⟩:∃u,l1[k]? =some u:=⟨_,List.getElem?_eq_getElem hlk⟩
    obtain⟨⟨c1,c2,c3,c4,c5,c6⟩,hu2⟩:∃u,l2[k]? =some u:=⟨_,List.getElem?_eq_getElem hlk2⟩
    obtain⟨g1,off1,rfl,hcell1⟩:=HN1.out.at (by rintro rfl;simp at hlk)
    obtain⟨g2,off2,rfl,hcell2⟩:=HN2.out.at (by rintro rfl;simp at hlk2)
    have cells1:∀(x:Nat) (v:Value),(Nd.mk a1 a2 a3 a4 a5 a6).cells[x]? =some v->wr.cell? ⟨g1,off1+k*6+x,none⟩=some v:=fun x v hv=>by
     have:=hcell1 k _ hu1 x v hv
     exact(HK.out.cell (World.block_lt_of_cell? w _ this)).trans this
    have cells2:∀(x:Nat) (v:Value),(Nd.mk c1 c2 c3 c4 c5 c6).cells[x]? =some v->wr.cell? ⟨g2,off2+k*6+x,none⟩=some v:=fun x v hv=>by
     have:=hcell2 k _ hu2 x v hv
     exact(HK.out.cell (World.block_lt_of_cell? w _ this)).trans this
    have r0:=cells1 0 _ rfl;have r1:=cells1 1 _ rfl;have r2:=cells1 2 _ rfl;have r3:=cells1 3 _ rfl;have r4:=cells1 4 _ rfl;have r5:=cells1 5 _ rfl;have s0:=cells2 0 _ rfl;have s1:=cells2 1 _ rfl;have s2:=cells2 2 _ rfl;have s3:=cells2 3 _ rfl;have s4:=cells2 4 _ rfl;have s5:=cells2 5 _ rfl;simp only[Nat.add_zero] at r0 s0;have he:=eq50 a1 a2 a3 a4 a5 a6 c1 c2 c3 c4 c5 c6;have hgd:=guard50;have HU1:=Lib.hid hu1;have HU2:=Lib.hid hu2;clear cells1 cells2 hcell1 hcell2 hu1 hu2;by_cases hab:Nd.mk a1 a2 a3 a4 a5 a6=Nd.mk c1 c2 c3 c4 c5 c6
    ·rw[decide_eq_true hab] at he;have HAB:=Lib.hid hab;clear hab;go_wp2_with fail;go_region
     go_wp2_with fail;go_roundg (l1.length-(k+1))
     case measure=>have:=HG.out;omega
     case rel=>
      refine⟨k+1,by simp,by omega,rfl,HK.out.drewN _,fun j hj=>?_⟩
      by_cases e:j=k
      ·subst e;rw[HU1.out,HU2.out,HAB.out]
      ·exact HS.out j (by omega)
    ·rw[decide_eq_false hab] at he;have hRf:R=false:=by
      rw[<-HR.out,decide_eq_false_iff_not];rintro rfl;have h1:=HU1.out;rw[HU2.out] at h1;exact hab (Option.some.inj h1).symm
     subst hRf;clear hab;go_wp2_with fail;go_region
     go_wp2_with fail;go_ret;exact⟨rfl,HK.out.drewN _⟩
   ·have hkl:k=l1.length:=by omega
    subst hkl;have hRt:R=true:=by
     rw[<-HR.out,decide_eq_true_iff];apply List.ext_getElem?;intro j;by_cases hj:j<l1.length
     ·exact HS.out j hj
     ·rw[List.getElem?_eq_none (by omega),List.getElem?_eq_none (by have:=HLEN.out;omega)]
    subst hRt;go_wp2_with fail;go_ret;exact⟨rfl,HK.out⟩
 ·have hd:((l1.length:Int)!=(l2.length:Int))=true:=by simp;omega
  have hn:decide (l1=l2)=false:=by
   rw[decide_eq_false_iff_not];rintro rfl;exact hlen rfl
  rw[hn];clear hlen;go_enter Tryz.func16,Tryz.ntmps16;go_wp2_with fail;go_ret;exact⟨rfl,Kin.refl _⟩
structure RP (C:Ctx) (i:Nat) (b:Int) (w:World):Prop where
 blk:∃bo cap,w.heap[C.r]? =some (.cells #[.slice bo C.l.length cap, .int .i64 i, .int .i64 C.e, .int .i64 b] 93 (0,0))/\(C.l≠[]->bo=some ⟨C.g,0,none⟩)/\C.l.length<=cap
 toks:ToksAt C.l C.g w
 ne:C.l≠[]->C.g≠C.r
 le:i<=C.l.length
 len:C.l.length<=8193
 pos:∀t∈C.l,0<=t.pos
 e0:0<=C.e
theorem RP.lt{C:Ctx}{i:Nat}{b:Int}{w:World}(h:RP C i b w):C.r<w.heap.size:=by
 obtain⟨bo,cap,h1,_⟩:=h.blk
 exact(Array.getElem?_eq_some_iff.1 h1).1
theorem ToksAt.glt{l:List Item}{g:Nat}{w:World}(h:ToksAt l g w)(hne:l≠[]):g<w.heap.size:=by
 cases l with
 |nil=>exact absurd rfl hne
 |cons t l=>exact World.block_lt_of_cell? w ⟨g,0*4,none⟩ (h.kind 0 t rfl)
theorem RP.kept{C:Ctx}{i:Nat}{b:Int}{w w':World}(h:RP C i b w)(hk:∀k,k<w.heap.size->w'.heap[k]? =w.heap[k]?):RP C i b w':=by
 obtain⟨bo,cap,h1,h2,h3⟩:=h.blk
 exact⟨⟨bo,cap,(hk _ h.lt).trans h1,h2,h3⟩,h.toks.of fun hne o=>World.cell?_of_block (a:=⟨C.g,o,none⟩) (hk _ (h.toks.glt hne)),h.ne,h.le,h.len,h.pos,h.e0⟩
theorem RP.kin{C:Ctx}{i:Nat}{b:Int}{w w':World}(h:RP C i b w)(K:Kin w w'):RP C i b w':=h.kept K.block
theorem RP.set{C:Ctx}{i j:Nat}{b b':Int}{w w':World}(h:RP C i b w)(hj:j<=C.l.length)(hg:w.grownBy w' (some C.r))(hb:∀bo cap,w.heap[C.r]? =some (.cells #[.slice bo C.l.length cap, .int .i64 i, .int .i64 C.e, .int .i64 b] 93 (0,0))->w'.heap[C.r]? =some (.cells #[.slice bo C.l.length cap, .int .i64 j, .int .i64 C.e, .int .i64 b'] 93 (0,0))):RP C j b' w':=by
 obtain⟨bo,cap,h1,h2,h3⟩:=h.blk
 exact⟨⟨bo,cap,hb bo cap h1,h2,h3⟩,h.toks.of fun hne o=>World.cell?_of_block (a:=⟨C.g,o,none⟩) (hg.block _ (h.toks.glt hne) (by intro e;exact h.ne hne (Option.some.inj e))),h.ne,hj,h.len,h.pos,h.e0⟩
theorem RP.cells{C:Ctx}{i:Nat}{b:Int}{w:World}(h:RP C i b w):∃bo cap,(C.l≠[]->bo=some ⟨C.g,0,none⟩)/\C.l.length<=cap/\w.cell? ⟨C.r,0,none⟩=some (.slice bo C.l.length cap)/\w.cell? ⟨C.r,1,none⟩=some (.int .i64 i)/\w.cell? ⟨C.r,2,none⟩=some (.int .i64 C.e)/\w.cell? ⟨C.r,3,none⟩=some (.int .i64 b)/\w.frozen? ⟨C.r,1,none⟩=false/\w.frozen? ⟨C.r,3,none⟩=false:=by
 obtain⟨bo,cap,h1,h2,h3⟩:=h.blk
 refine⟨bo,cap,h2,h3,cell_put h1 rfl,cell_put h1 rfl,cell_put h1 rfl,cell_put h1 rfl,?_,?_⟩<;>(unfold World.frozen?;simp[h1])
theorem RP.drewN{C:Ctx}{i:Nat}{b:Int}{w:World}(h:RP C i b w)(n:Nat):RP C i b (w.drewN n):=h.kept fun _ _=>rfl
theorem wM{C:Ctx}{i:Nat}{b:Int}{w:World}(h:RP C i b w)(j:Nat):0<=placeOf C.l C.e j:=by
 unfold placeOf;split
 ·rename_i t ht;exact h.pos t (List.mem_of_getElem? ht)
 ·exact h.e0
def bad1(C:Ctx)(i:Nat)(b:Int):Int:=if b<0 then placeOf C.l C.e i else b
def isP(C:Ctx)(i:Nat)(b:Int)(s:ByteArray):Bool:=decide (b<0)&&zb C.l i s
def gP(C:Ctx)(i:Nat)(b:Int)(s:ByteArray):Nat:=if isP C i b s then i+1 else i
def uG(C:Ctx)(i:Nat)(b:Int)(s:ByteArray):Int:=if isP C i b s then b else bad1 C i b
theorem zi0{C:Ctx}{i:Nat}{b:Int}{s:ByteArray}(h:isP C i b s=true):i<C.l.length/\b<0:=by
 unfold isP at h;rw[Bool.and_eq_true,decide_eq_true_eq] at h;exact⟨zaF h.2,h.1⟩
def uR(C:Ctx)(i:Nat)(b:Int):Bool:=decide (b<0)&&zO C.l i
def gR(C:Ctx)(i:Nat)(b:Int):Nat:=if uR C i b then i+1 else i
def uS(C:Ctx)(i:Nat)(b:Int):Int:=if uR C i b then b else bad1 C i b
def zko(C:Ctx)(i:Nat)(b:Int):ByteArray:=if uR C i b then textAt C.l i else ⟨#[]⟩
structure Gr (r:Nat) (w w':World):Prop where
 os:w'.os=w.os
 out:w'.output=w.output
 size:w.heap.size<=w'.heap.size
 block:∀k,k<w.heap.size->k≠r->w'.heap[k]? =w.heap[k]?
theorem Gr.refl(r:Nat)(w:World):Gr r w w:=⟨rfl,rfl,Nat.le_refl _,fun _ _ _=>rfl⟩
theorem Gr.trans{r:Nat}{a b c:World}(h:Gr r a b)(k:Gr r b c):Gr r a c:=⟨k.os.trans h.os,k.out.trans h.out,Nat.le_trans h.size k.size,fun j hj hr=>(k.block j (Nat.lt_of_lt_of_le hj h.size) hr).trans (h.block j hj hr)⟩
theorem Gr.of_kin{r:Nat}{w w':World}(K:Kin w w'):Gr r w w':=⟨K.os,K.out,K.size,fun k hk _=>K.block k hk⟩
theorem Gr.of_grew{C:Ctx}{w w':World}(h:Grew C w w'):Gr C.r w w':=⟨h.os,h.output,h.size,fun k hk hr=>h.block k hk (by intro e;exact hr (Option.some.inj e))⟩
theorem Gr.owns{r:Nat}{w w':World}{B n:Nat}{e:TypeId}{size:Nat}{v:Value}{xs:List Value}(G:Gr r w w')(h:w.ownsRow B e size v n xs)(hr:r<B):w'.ownsRow B e size v n xs:=by
 refine⟨h.1,h.2.imp id ?_⟩;rintro⟨g,cap,cur,h1,h2,h3,h4⟩
 exact⟨g,cap,cur,h1,h2,(G.block g (Array.getElem?_eq_some_iff.1 h3).1 (by omega)).trans h3,h4⟩
theorem Gr.setCell{r:Nat}{w w':World}(h:Gr r w w')(o:Nat)(v:Value):Gr r w (w'.setCell ⟨r,o,none⟩ v):=by
 have g:=zB w' r o v;exact h.trans ⟨g.os,g.output,g.size,fun k hk hr=>g.block k hk (by intro e;exact hr (Option.some.inj e))⟩
theorem Gr.drewN{r:Nat}{w w':World}(h:Gr r w w')(n:Nat):Gr r w (w'.drewN n):=⟨h.os,h.out,h.size,h.block⟩
theorem Gr.alloc{r:Nat}{w w':World}(h:Gr r w w')(o:Obj):Gr r w (w'.alloc o):=h.trans (.of_kin ((Kin.refl w').alloc o))
open Go.RowKit Go.Bsd
def qx:ByteArray:={data:= #[120,32,58,61,32,49,32,45,32,50,59]}
def fixedTree:List Nd:=[⟨1,2,{data:= #[120]},0,0,0⟩,⟨2,15,{data:= #[]},0,4,7⟩,⟨3,10,{data:= #[]},1,0,5⟩,⟨3,10,{data:= #[]},2,0,9⟩]
theorem zej:(badOf (pieces qx)).1=0:=by kernel_rfl
theorem zgg:(rd (ctx0 qx) 60 .prog 0).map xR=some (.tree fixedTree):=by kernel_rfl
theorem zaA:qT qx (.tree fixedTree):=by
 unfold qT;rw[if_neg (by decide),if_neg (by rw[zej];simp)]
 obtain⟨r,h1,h2⟩:=Option.map_eq_some_iff.1 zgg
 exact⟨60,r,h1,h2.symm⟩
theorem zbs:shapeF fixedTree=(0,0):=by kernel_rfl
theorem zaz:shapeF (fixedTree.take 3)=(33,3):=by kernel_rfl
theorem NodesAt.of_owns{w:World}{base:Nat}{v:Value}{l:List Nd}(h:w.ownsRow base 50 6 v l.length (ndCells l)):NodesAt w v l:=by
 have h0:=h;rcases h.2 with⟨rfl,hn⟩|⟨g,cap,cur,rfl,hb,hg,hc,_,_,_⟩
 ·refine⟨none,0,by rw[hn],by omega,fun hl=>absurd (List.eq_nil_of_length_eq_zero hn) hl⟩
 ·refine⟨_,cap,rfl,hc,fun _=>⟨g,0,rfl,fun j n hj k c hk=>?_⟩⟩;have hk6:k<6:=by have:=(List.getElem?_eq_some_iff.1 hk).1;simpa [Nd.cells] using this
  have:=h0.cells rfl (j*6+k) c ((nd_get hj k hk6).trans hk)
  rw[show((⟨g,0,none⟩:Addr).add (j*6+k))=⟨g,j*6+k,none⟩ from by unfold Addr.add;split<;>simp_all] at this
  rw[show 0+j*6+k=j*6+k from by omega]
  exact this
theorem NodesAt.of_block{w:World}{g:Nat}{cur:Array Value}{l:List Nd}{n cap:Nat}(hg:w.heap[g]? =some (.cells cur 50 (0,0)))(hc:cur.toList.take (l.length*6)=ndCells l)(hn:n=l.length)(hcap:l.length<=cap):NodesAt w (.slice (some ⟨g,0,none⟩) n cap) l:=by
 refine⟨_,cap,by rw[hn],hcap,fun _=>⟨g,0,rfl,fun j n hj k c hk=>?_⟩⟩
 have hk6:k<6:=by have:=(List.getElem?_eq_some_iff.1 hk).1;simpa [Nd.cells] using this
 have hjl:=(List.getElem?_eq_some_iff.1 hj).1;have h2:=(nd_get hj k hk6).trans hk;rw[<-hc,List.getElem?_take,if_pos (by omega)] at h2
 rw[show 0+j*6+k=j*6+k from by omega]
 unfold World.cell?
 simp[hg];simpa using h2
theorem yZ(w:World)(T:Nat->Question->Nat)(d:Nat):Kin w (re w T d):=⟨rfl,rfl,Nat.le_refl _,fun _ _=>rfl⟩
def TrueP(w:World):Ending->World->Prop
 | .returned v,w'=>v= .bool true/\Kin w w'
 |_,_=>False
open Go.RowKit
def zjL(l:List Nd):List Nd:=l.map fun n=>{n with depth:=n.depth+1}
def topN(n:Nd):Nd:={n with depth:=1}
def zjG(vs:List (Value×List Nd)):List Nd:=vs.flatMap fun x=>zjL x.2
def zkn(n:Nd)(vs:List (Value×List Nd)):List Nd:=topN n::zjG vs
theorem flat_cells{w:World}{g off:Nat}{l:List Nd}(h:∀(j:Nat) (n:Nd),l[j]? =some n->∀(k:Nat) (c:Value),n.cells[k]? =some c->w.cell? ⟨g,off+j*6+k,none⟩=some c):
 ∀(j:Nat) (u:Value),(ndCells l)[j]? =some u->w.cell? ((⟨g,off,none⟩:Addr).add j)=some u:=by
 intro j u hu;have hj:=(List.getElem?_eq_some_iff.1 hu).1;rw[ndCells_length] at hj;have hq:j / 6<l.length:=by omega
 have hn:l[j / 6]? =some l[j / 6]:=List.getElem?_eq_getElem hq;have hr:=nd_get hn (j % 6) (by omega)
 rw[show j / 6*6+j % 6=j from by omega,hu] at hr
 have:=h _ _ hn (j % 6) u hr.symm
 rw[show(⟨g,off,none⟩:Addr).add j=⟨g,off+j,none⟩ from by unfold Addr.add;split<;>simp_all,<-this]
 congr 2;omega
theorem ndCells_one'(l:List Nd):∀u∈ndCells l,u.oneCell'=true:=by
 intro u hu;simp only[ndCells,List.mem_flatMap] at hu;obtain⟨n,_,hn⟩:=hu
 exact zen n u hn
def zkl(w:World)(hb:Value)(vs:List (Value×List Nd)):Prop:=∃bo cap,hb= .slice bo vs.length cap/\(vs≠[]->∃h,bo=some ⟨h,0,none⟩/\vs.length<=cap/\∀(j:Nat) x,vs[j]? =some x->w.cell? ⟨h,j,none⟩=some x.1)
def gS(k i:Nat):Nd:=⟨-1-k,0,⟨#[]⟩,0,0,i⟩
def behN(k:Nat):Nd:=⟨-1000-k,0,⟨#[]⟩,0,0,0⟩
def jz(w:World)(B:Nat)(vs:List Value)(f:Nat->List Nd):Prop:=∀k v,vs[k]? =some v->w.ownsRow B 50 6 v (f k).length (ndCells (f k))
def Sep(vs:List Value):Prop:=∀(j k:Nat) (v v':Value) (b:Nat),j≠k->vs[j]? =some v->vs[k]? =some v'->v.ownBlock=some b->v'.ownBlock≠some b
theorem jz.kin{w w':World}{B:Nat}{vs:List Value}{f:Nat->List Nd}(h:jz w B vs f)(K:Kin w w'):jz w' B vs f:=fun k v hv=>jH (h k v hv) K
theorem jz.wrote{w w':World}{B:Nat}{vs:List Value}{f:Nat->List Nd}(h:jz w B vs f)(hs:Sep vs){k:Nat}{v:Value}(hv:vs[k]? =some v){row:Option Nat}(hr:row=v.ownBlock)(hg:w.grownBy w' row){l:List Nd}(hl:w'.ownsRow B 50 6 v l.length (ndCells l)):jz w' B vs (fun j=>if j=k then l else f j):=by
 intro j u hu;by_cases e:j=k
 ·subst e;rw[hv] at hu;cases hu;simp only[if_true];exact hl
 ·simp only[if_neg e];refine(h j u hu).kept hg ?_;cases hb:u.ownBlock with
  |none=>exact .inl rfl
  |some b=>
   right;rw[hr];intro e2;exact hs j k u v b e hu hv hb (by rw[<-e2])
def opTexts(k:Nat):List ByteArray:=(opsOf k).map fun p=>⟨p.1.toArray⟩
def zkh(k:Nat):List Int:=(opsOf k).map (·.2)
structure TabAt (w:World) (h:Nat) (rows:Nat->List Value):Prop where
 row:∀k,k<5->∃g,w.cell? ⟨h,k,none⟩=some (.slice (some ⟨g,0,none⟩) (rows k).length (rows k).length)/\∀(j:Nat) (u:Value),(rows k)[j]? =some u->w.cell? ⟨g,j,none⟩=some u
theorem TabAt.kin{w w':World}{h:Nat}{rows:Nat->List Value}(t:TabAt w h rows)(K:Kin w w'):TabAt w' h rows:=⟨fun k hk=>by
 obtain⟨g,h1,h2⟩:=t.row k hk
 exact⟨g,(K.cell (World.block_lt_of_cell? w _ h1)).trans h1,fun j u hu=>(K.cell (World.block_lt_of_cell? w _ (h2 j u hu))).trans (h2 j u hu)⟩⟩
def zkc(w:World)(te ts:TypeId)(rows:Nat->List Value):World:=
 ((((((w.alloc (.cells (rows 0).toArray te)).alloc (.cells (rows 1).toArray te)).alloc (.cells (rows 2).toArray te)).alloc (.cells (rows 3).toArray te)).alloc (.cells (rows 4).toArray te)).alloc
   (.cells #[.slice (some ⟨w.heap.size,0,none⟩) (rows 0).length (rows 0).length, .slice (some ⟨w.heap.size+1,0,none⟩) (rows 1).length (rows 1).length, .slice (some ⟨w.heap.size+2,0,none⟩) (rows 2).length (rows 2).length, .slice (some ⟨w.heap.size+3,0,none⟩) (rows 3).length (rows 3).length, .slice (some ⟨w.heap.size+4,0,none⟩) (rows 4).length (rows 4).length] ts))
def zkq(l:List Item):Prop:=∀t∈l,t.kind≠1->t.kind≠2->∀k,(opsOf k).lookup t.text.toList=none
def opP(C:Ctx)(k i:Nat)(b:Int):Int:=if b<0 then (opAt k C.l i).getD 0 else 0
def NtOk(l:List Nd):Prop:=∀n∈l,1<=n.depth/\n.depth<=l.length
theorem NtOk.nil:NtOk []:=fun n h=>by cases h
theorem NtOk.append{a b:List Nd}(ha:NtOk a)(hb:NtOk b):NtOk (a++b):=by
 intro n hn;rw[List.length_append];rcases List.mem_append.1 hn with h|h
 ·have:=ha n h;omega
 ·have:=hb n h;omega
def Ans(r:Res (List Tr))(l:List Nd)(j:Nat)(b':Int):Prop:=match r with
 | .ok ts j'=>j=j'/\b'= -1/\l=flatTs ts 1
 | .no p=>b'=p/\0<=p
abbrev Vb(b:Int):Prop:=b= -1\/0<=b
@[reducible] def bzN:NT->Nat
 | .block=>1
 |_=>0
def PN(C:Ctx)(nt:NT)(i:Nat)(b:Int)(l:List Nd)(j:Nat)(b':Int):Prop:=
 i<=j/\l.length<=j-i+bzN nt/\NtOk l/\Vb b'/\(0<=b->j=i/\b'=b)/\(b= -1->∀f r,rd C f nt i=some r->Ans r l j b')
abbrev wz(C:Ctx)(w:World)(P:List Nd->Nat->Int->Prop)(e:Ending)(w':World):Prop:=
 ∃v l j b',e= .returned v/\w'.ownsRow w.heap.size 50 6 v l.length (ndCells l)/\RP C j b' w'/\Gr C.r w w'/\P l j b'
def remP(C:Ctx)(i:Nat)(b:Int):Nat:=if b<0 then C.l.length-i+1 else 0
structure PSt (C:Ctx) (w:World) (R:Nat) (i:Nat) (b:Int) (wk:World):Prop where
 rp:RP C i b wk
 gr:Gr C.r w wk
 vb:Vb b
 rem:remP C i b<=R
theorem PSt.start{C:Ctx}{i:Nat}{b:Int}{w:World}(h:RP C i b w)(hb:Vb b):PSt C w (remP C i b) i b w:=⟨h, .refl _ _,hb,Nat.le_refl _⟩
theorem PSt.kin{C:Ctx}{w wk w':World}{R i:Nat}{b:Int}(h:PSt C w R i b wk)(K:Kin wk w'):PSt C w R i b w':=⟨h.rp.kin K,h.gr.trans (.of_kin K),h.vb,h.rem⟩
theorem jD{C:Ctx}{i:Nat}{b:Int}{w:World}(h:RP C i b w):0<=bad1 C i b/\(0<=b->bad1 C i b=b):=by
 unfold bad1;split
 ·exact⟨wM h i,fun h=>by omega⟩
 ·rename_i hb;exact⟨by omega,fun _=>rfl⟩
theorem um{C:Ctx}{i:Nat}{b:Int}(h:0<=b):remP C i b=0:=by unfold remP;rw[if_neg (by omega)]
theorem remP_good{C:Ctx}{i:Nat}{b:Int}(h:b<0):remP C i b=C.l.length-i+1:=by unfold remP;rw[if_pos h]
theorem zfi{C:Ctx}{i:Nat}{b:Int}{s:ByteArray}{w:World}(h:RP C i b w):remP C (gP C i b s) (uG C i b s)<=remP C i b:=by
 unfold gP uG;split
 ·rename_i hi;have hb:=(zi0 hi).2;rw[remP_good hb,remP_good hb];omega
 ·rw[um (jD h).1];exact Nat.zero_le _
theorem zfS{C:Ctx}{i:Nat}{b:Int}{w:World}(h:RP C i b w):remP C (gR C i b) (uS C i b)<=remP C i b:=by
 unfold gR uS;split
 ·rename_i hi;have hb:b<0:=by unfold uR at hi;rw[Bool.and_eq_true,decide_eq_true_eq] at hi;exact hi.1
  rw[remP_good hb,remP_good hb];omega
 ·rw[um (jD h).1];exact Nat.zero_le _
theorem PSt.take{C:Ctx}{w wk w':World}{R i:Nat}{b:Int}{s:ByteArray}(h:PSt C w R i b wk)(h1:RP C (gP C i b s) (uG C i b s) w')(h2:Grew C wk w'):PSt C w R (gP C i b s) (uG C i b s) w':=by
 refine⟨h1,h.gr.trans (.of_grew h2),?_,Nat.le_trans (zfi h.rp) h.rem⟩;unfold uG;split
 ·exact h.vb
 ·exact .inr (jD h.rp).1
theorem PSt.fail{C:Ctx}{w wk w':World}{R i:Nat}{b:Int}(h:PSt C w R i b wk)(h1:RP C i (bad1 C i b) w')(h2:Grew C wk w'):PSt C w R i (bad1 C i b) w':=
 ⟨h1,h.gr.trans (.of_grew h2), .inr (jD h.rp).1,by rw[um (jD h.rp).1];exact Nat.zero_le _⟩
theorem PSt.name{C:Ctx}{w wk w':World}{R i:Nat}{b:Int}(h:PSt C w R i b wk)(h1:RP C (gR C i b) (uS C i b) w')(h2:Gr C.r wk w'):PSt C w R (gR C i b) (uS C i b) w':=by
 refine⟨h1,h.gr.trans h2,?_,Nat.le_trans (zfS h.rp) h.rem⟩;unfold uS;split
 ·exact h.vb
 ·exact .inr (jD h.rp).1
theorem PSt.less{C:Ctx}{w wk:World}{R R' i:Nat}{b:Int}(h:PSt C w R i b wk)(hR:remP C i b<=R'):PSt C w R' i b wk:=⟨h.rp,h.gr,h.vb,hR⟩
theorem PN.rem{C:Ctx}{nt:NT}{i j:Nat}{b b':Int}{l:List Nd}(h:PN C nt i b l j b')(hv:Vb b):remP C j b'<=remP C i b:=by
 obtain⟨h1,_,_,h4,h5,_⟩:=h
 rcases hv with rfl|hb
 ·rw[remP_good (C:=C) (i:=i) (b:= -1) (by omega)]
  unfold remP
  split<;>omega
 ·obtain⟨rfl,rfl⟩:=h5 hb
  exact Nat.le_refl _
theorem PSt.sub{C:Ctx}{w wk w':World}{R i j:Nat}{b b':Int}{nt:NT}{l:List Nd}(h:PSt C w R i b wk)(h1:RP C j b' w')(h2:Gr C.r wk w')(hp:PN C nt i b l j b'):PSt C w R j b' w':=
 ⟨h1,h.gr.trans h2,hp.2.2.2.1,Nat.le_trans (hp.rem h.vb) h.rem⟩
def Lst(B:Nat)(w:World)(x:Value×List Nd):Prop:=w.ownsRow B 50 6 x.1 x.2.length (ndCells x.2)/\NtOk x.2/\x.2.length<=20000
theorem Lst.kin{B:Nat}{w w':World}{x:Value×List Nd}(h:Lst B w x)(K:Kin w w'):Lst B w' x:=⟨jH h.1 K,h.2⟩
theorem Lst.gr{B r:Nat}{w w':World}{x:Value×List Nd}(h:Lst B w x)(G:Gr r w w')(hr:r<B):Lst B w' x:=⟨G.owns h.1 hr,h.2⟩
abbrev ndV(n:Nd):Value:= .agg #[.int .i64 n.depth, .int .i64 n.kind, .string n.name, .int .i64 n.num, .int .i64 n.op, .int .i64 n.at_]
def ziJ:Res (List Tr)->Bool
 | .ok ts _=>ts.isEmpty
 | .no _=>false
def PS(C:Ctx)(i:Nat)(l:List Nd)(j:Nat)(b':Int):Prop:=
 i<=j/\l.length<=j-i+1/\NtOk l/\Vb b'/\l≠[]/\∀f r,rd C f .stmt i=some r->if ziJ r then b'=placeOf C.l C.e i/\0<=b' else Ans r l j b'
structure PAll (C:Ctx) (N:Nat):Prop where
 expr:∀(k i:Nat) (b:Int) (w:World),k<=5->RP C i b w->Vb b->remP C i b*20+(8-k)<N->Calls Tryz.prog 93 #[.pointer (some ⟨C.r,0,none⟩), .int .i64 k] w (wz C w (PN C (.row k) i b))
 unary:∀(i:Nat) (b:Int) (w:World),RP C i b w->Vb b->remP C i b*20+2<N->Calls Tryz.prog 131 #[.pointer (some ⟨C.r,0,none⟩)] w (wz C w (PN C .unary i b))
 atom:∀(i:Nat) (b:Int) (w:World),RP C i b w->Vb b->remP C i b*20+1<N->Calls Tryz.prog 159 #[.pointer (some ⟨C.r,0,none⟩)] w (wz C w (PN C .atom i b))
 block:∀(i:Nat) (b:Int) (w:World),RP C i b w->Vb b->remP C i b*20+9<N->Calls Tryz.prog 94 #[.pointer (some ⟨C.r,0,none⟩)] w (wz C w (PN C .block i b))
 stmt:∀(i:Nat) (w:World),RP C i (-1) w->remP C i (-1)*20+10<N->Calls Tryz.prog 48 #[.pointer (some ⟨C.r,0,none⟩)] w (wz C w (PS C i))
def Fol{α:Type}(x:Option (Res α))(P:α->Prop)(j:Nat)(b:Int):Prop:=match x with
 |none=>True
 |some (.no p)=>b=p/\0<=p
 |some (.ok a k)=>j=k/\b= -1/\P a
theorem PS.rem{C:Ctx}{i j:Nat}{b':Int}{l:List Nd}(h:PS C i l j b'):remP C j b'<=remP C i (-1):=by
 have:=h.1
 rw[remP_good (C:=C) (i:=i) (b:= -1) (by omega)]
 unfold remP
 split<;>omega
def RowI(C:Ctx)(k i:Nat)(b:Int)(l:List Nd)(j:Nat)(b':Int):Prop:=
 i<=j/\l.length<=j-i/\NtOk l/\Vb b'/\(0<=b->j=i/\b'=b)/\
 (b= -1->(b'= -1/\∃left,l=flatTs [left] 1/\∀f r,rd C f (.row k) i=some r->∃f',rd C f' (.rest k left) j=some r)\/(0<=b'/\∀f r,rd C f (.row k) i=some r->r= .no b'))
def WdOk(l:List Item):Prop:=∀t∈l,t.kind=0->t.text.toList≠[125]
def zgI(ts:List Tr):Res (List Tr)->Res (List Tr)
 | .ok us k=> .ok (ts++us) k
 | .no p=> .no p
def StsI(C:Ctx)(Z:Nat->Prop)(i:Nat)(b:Int)(l:List Nd)(j:Nat)(b':Int):Prop:=
 i<=j/\l.length<=j-i+1/\NtOk l/\Vb b'/\(b'= -1->l.length<=j-i)/\(0<=b->j=i/\b'=b/\l=[])/\
 (b= -1->(b'= -1/\∃ts,l=flatTs ts 1/\∀f r,rd C f .stmts i=some r->∃f' r',rd C f' .stmts j=some r'/\r=zgI ts r')\/(0<=b'/\∀f r,rd C f .stmts i=some r->r= .no b'\/∃ts j',r= .ok ts j'/\placeOf C.l C.e j'=b'/\Z j'))
def numP(C:Ctx)(i:Nat)(b:Int):Bool:=decide (b<0)&&xK C.l i
def numJ(C:Ctx)(i:Nat)(b:Int):Nat:=if numP C i b then i+1 else i
def numB(C:Ctx)(i:Nat)(b:Int):Int:=if numP C i b then b else bad1 C i b
def numN(C:Ctx)(i:Nat)(b:Int):Int:=if numP C i b then numAtT C.l i else 0
def PD(C:Ctx)(i:Nat)(l:List Nd)(j:Nat)(b':Int):Prop:=
 i<j/\l.length=1/\NtOk l/\Vb b'/\∃t,∀f,(b'= -1->l=flatTs [t] 1/\rd C (f+1) .prog i=andThen (rd C f .prog j) fun us k=>some (.ok (t::us) k))/\(0<=b'->rd C (f+1) .prog i=some (.no b'))
def DclI(C:Ctx)(l:List Nd)(j:Nat)(b':Int):Prop:=
 l.length<=j/\NtOk l/\Vb b'/\((b'= -1/\∃ts,l=flatTs ts 1/\∀f r,rd C f .prog 0=some r->∃f' r',rd C f' .prog j=some r'/\r=zgI ts r')\/(0<=b'/\∀f r,rd C f .prog 0=some r->r= .no b'))
theorem RP.kept0{C:Ctx}{i:Nat}{b:Int}{w w':World}{B:Nat}(h:RP C i b w)(hr:C.r<B)(hg:C.l≠[]->C.g<B)(hk:∀k,k<B->w'.heap[k]? =w.heap[k]?):RP C i b w':=by
 obtain⟨bo,cap,h1,h2,h3⟩:=h.blk
 exact⟨⟨bo,cap,(hk _ hr).trans h1,h2,h3⟩,h.toks.of fun hne o=>World.cell?_of_block (a:=⟨C.g,o,none⟩) (hk _ (hg hne)),h.ne,h.le,h.len,h.pos,h.e0⟩
theorem PSt.grown{C:Ctx}{w wk w':World}{R i i0:Nat}{b b0:Int}{row:Option Nat}(h:PSt C w R i b wk)(g:wk.grownBy w' row)(h0:RP C i0 b0 w)(hr:∀k,row=some k->w.heap.size<=k):PSt C w R i b w':=by
 have hk:∀k,k<w.heap.size->w'.heap[k]? =wk.heap[k]? :=fun k hk=>g.block k (Nat.lt_of_lt_of_le hk h.gr.size) (fun e=>by have:=hr k e.symm;omega)
 exact⟨h.rp.kept0 h0.lt (fun hne=>h0.toks.glt hne) hk,⟨g.os.trans h.gr.os,g.output.trans h.gr.out,Nat.le_trans h.gr.size g.size,fun k hk1 hk2=>(hk k hk1).trans (h.gr.block k hk1 hk2)⟩,h.vb,h.rem⟩
def ctxR(s:ByteArray)(r:Nat)(sl:Value):Ctx:=ctxOf s 0 undef r sl
def RPar(o:POut)(w:World)(e:Ending)(w':World):Prop:=Kin w w'/\match o with
 | .tree l=>∃sl,e= .returned (.tuple #[sl, .int .i64 0, .int .i64 0])/\w'.ownsRow w.heap.size 50 6 sl l.length (ndCells l)
 | .fault k p=>e= .returned (.tuple #[.slice none 0 0, .int .i64 k, .int .i64 p])
theorem PD.rem{C:Ctx}{i j:Nat}{b':Int}{l:List Nd}(h:PD C i l j b'):remP C j b'<=remP C i (-1):=by
 have:=h.1
 rw[remP_good (C:=C) (i:=i) (b:= -1) (by omega)]
 unfold remP
 split<;>omega
theorem PD.len{C:Ctx}{i j:Nat}{b':Int}{l:List Nd}(h:PD C i l j b'):0<l.length/\l.length<=20000:=by have:=h.2.1;omega
def markL(k n:Nat):List Nd:=(List.range n).map (gS k)
def qW(f:Nat->List Nd)(k i:Nat):Nat->List Nd:=fun j=>if j<k then markL j (f j).length else if j=k then markL k i++(f k).drop i else f j
theorem zdY(f:Nat->List Nd)(k i:Nat)(hi:i<=(f k).length)(j:Nat):(qW f k i j).length=(f j).length:=by
 unfold qW;split
 ·simp[markL]
 ·split
  ·rename_i h;subst h;simp[markL];omega
  ·rfl
theorem markF_step(f:Nat->List Nd)(k i:Nat)(hi:i<(f k).length):(fun j=>if j=k then (qW f k i k).set i (gS k i) else qW f k i j)=qW f k (i+1):=by
 funext j
 by_cases h2:j=k
 ·subst h2;unfold qW;simp only[if_true,Nat.lt_irrefl,if_false];have hl:(markL j i).length=i:=by simp[markL]
  rw[List.set_append_right _ _ (by omega),hl,Nat.sub_self,List.drop_eq_getElem_cons hi,List.set_cons_zero]
  simp[markL,List.range_succ]
 ·simp only[if_neg h2];unfold qW;by_cases h1:j<k
  ·rw[if_pos h1,if_pos h1]
  ·rw[if_neg h1,if_neg h1,if_neg h2,if_neg h2]
theorem jB{w:World}{B g n cap:Nat}{e:TypeId}{size:Nat}{xs:List Value}(h:w.ownsRow B e size (.slice (some ⟨g,0,none⟩) n cap) n xs)(j:Nat)(u:Value):(w.setCell ⟨g,j,none⟩ u).ownsRow B e size (.slice (some ⟨g,0,none⟩) n cap) n (xs.set j u):=by
 obtain⟨h1,h2⟩:=h
 refine⟨by simpa using h1,?_⟩
 rcases h2 with⟨h2,_⟩|⟨g',cap',cur,hv,hg,hh,hn,hm,hs,ht⟩
 ·simp at h2
 ·simp only[Value.slice.injEq,Option.some.injEq,Addr.mk.injEq,and_true,true_and] at hv;obtain⟨rfl,rfl⟩:=hv
  refine Or.inr ⟨g,cap,cur.setIfInBounds j u,rfl,hg,?_,hn,hm,by simpa using hs,?_⟩
  ·have hlt:g<w.heap.size:=(Array.getElem?_eq_some_iff.1 hh).1;have h':w.heap[g]= .cells cur e (0,0):=(Array.getElem?_eq_some_iff.1 hh).2;show(w.heap.modify g _)[g]? =_
   rw[Array.getElem?_eq_getElem (by simpa using hlt),Array.getElem_modify_self,h']
   rfl
  ·rw[Array.toList_setIfInBounds,List.take_set,ht]
theorem zdV:∀(L:List Nd) (i:Nat) (n:Nd),ndCells (L.set i n)=((((((ndCells L).set (i*6) (.int .i64 n.depth)).set (i*6+1) (.int .i64 n.kind)).set (i*6+2) (.string n.name)).set (i*6+3) (.int .i64 n.num)).set (i*6+4) (.int .i64 n.op)).set (i*6+5) (.int .i64 n.at_)
 |[],i,n=>by simp[ndCells]
 |a::l,0,n=>by simp[ndCells,Nd.cells]
 |a::l,i+1,n=>by
  have ih:=zdV l i n;have e:∀m:List Nd,ndCells (a::m)=(.int .i64 a.depth)::(.int .i64 a.kind)::(.string a.name)::(.int .i64 a.num)::(.int .i64 a.op)::(.int .i64 a.at_)::ndCells m:=fun m=>by simp[ndCells,Nd.cells]
  rw[List.set_cons_succ,e,ih,e];rw[show(i+1)*6=i*6+6 by omega,show i*6+6+1=i*6+1+6 by omega,show i*6+6+2=i*6+2+6 by omega,show i*6+6+3=i*6+3+6 by omega,show i*6+6+4=i*6+4+6 by omega,show i*6+6+5=i*6+5+6 by omega]
  simp only[List.set_cons_succ]
def zcA(w:World)(g i:Nat)(n:Nd):World:=(((((w.setCell ⟨g,i*6,none⟩ (.int .i64 n.depth)).setCell ⟨g,i*6+1,none⟩ (.int .i64 n.kind)).setCell ⟨g,i*6+2,none⟩ (.string n.name)).setCell ⟨g,i*6+3,none⟩ (.int .i64 n.num)).setCell ⟨g,i*6+4,none⟩ (.int .i64 n.op)).setCell ⟨g,i*6+5,none⟩ (.int .i64 n.at_)
theorem zdN{w:World}{B g cap:Nat}{L:List Nd}(h:w.ownsRow B 50 6 (.slice (some ⟨g,0,none⟩) L.length cap) L.length (ndCells L))(i:Nat)(n:Nd):(zcA w g i n).ownsRow B 50 6 (.slice (some ⟨g,0,none⟩) (L.set i n).length cap) (L.set i n).length (ndCells (L.set i n)):=by
 rw[zdV,List.length_set];exact jB (jB (jB (jB (jB (jB h _ _) _ _) _ _) _ _) _ _) _ _
theorem qv(w:World)(g j:Nat)(u:Value):w.grownBy (w.setCell ⟨g,j,none⟩ u) (some g):=
 ⟨rfl,rfl,rfl,by simp[World.setCell],fun k _ hk=>Below.heap_setCell _ _ _ _ (by simpa using hk)⟩
theorem qD{a b c:World}{r:Option Nat}(h:a.grownBy b r)(k:b.grownBy c r):a.grownBy c r:=
 ⟨k.os.trans h.os,k.tape.trans h.tape,k.output.trans h.output,Nat.le_trans h.size k.size,fun j hj hr=>(k.block j (Nat.lt_of_lt_of_le hj h.size) hr).trans (h.block j hj hr)⟩
theorem zbf(w:World)(g i:Nat)(n:Nd):w.grownBy (zcA w g i n) (some g):=
 qD (qD (qD (qD (qD (qv _ _ _ _) (qv _ _ _ _)) (qv _ _ _ _)) (qv _ _ _ _)) (qv _ _ _ _)) (qv _ _ _ _)
theorem zhH(w:World)(o:Obj):Kin w (w.alloc o).drew:=⟨rfl,rfl,by show w.heap.size<=(w.heap.push o).size;simp,fun k hk=>Below.heap_alloc w o k hk⟩
theorem jz.put{w:World}{B:Nat}{vs:List Value}{f:Nat->List Nd}{k i g n cap:Nat}(h:jz w B vs (qW f k i))(hs:Sep vs)(hv:vs[k]? =some (.slice (some ⟨g,0,none⟩) n cap))(hn:(f k).length=n)(hi:i<n):jz (zcA w g i (gS k i)) B vs (qW f k (i+1)):=by
 have hl:=zdY f k i (by omega) k
 have ho:=h k _ hv;rw[<-hn,<-hl] at hv;rw[hl,hn] at ho;rw[<-markF_step f k i (by omega)]
 refine h.wrote hs hv rfl (zbf _ _ _ _) ?_;have:=zdN (w:=w) (B:=B) (g:=g) (cap:=cap) (L:=qW f k i k) (by rw[hl,hn];exact ho) i (gS k i)
 rw[List.length_set] at this⊢;exact this
def kN(w w':World)(v v':Value):Prop:=(v'.ownBlock=v.ownBlock/\w.grownBy w' v.ownBlock)\/(w.grownBy w' none/\∀k,v'.ownBlock=some k->w.heap.size<=k)
theorem uJ{P:Program}(w:World)(base:Nat)(t ty e:TypeId)(i:TypeInfo)(z:Value)(size bytes:Nat)(ht:P.underlying t=some (.slice e))(hi:P.info? e=some i)(hz:i.zero=some z)
 (hsize:i.size=size) (hby:i.bytes=bytes) (hzs:z.cells.size=size) (hsz:0<size)
 (v:Value) (n:Nat) (xs:List Value) (hown:w.ownsRow base e size v n xs)
 (a:Addr) (m c:Nat) (news:List Value) (hl:news.length=m*size) (hnews:∀j u,news[j]? =some u->w.cell? (a.add j)=some u) (h1:∀u∈news,u.oneCell'=true)
 (h63:n+m<=maxLen) (hbytes:(n+m)*bytes<=140737488355328) (hbase:base<=w.heap.size):
 ∃v' w',(Builtin.append_ #[t,t] ty #[v, .slice (some a) m c]).run P w= .ok v' w'/\w'.ownsRow base e size v' (n+m) (xs++news)/\kN w w' v v':=by
 have mono:∀{w':World} {v':Value} {N:Nat} {ys:List Value},w'.ownsRow w.heap.size e size v' N ys->w'.ownsRow base e size v' N ys/\∀k,v'.ownBlock=some k->w.heap.size<=k:=by
  intro w' v' N ys h;refine⟨⟨h.1,?_⟩,fun k hk=>(h.lt k hk).1⟩;rcases h.2 with h2|⟨g,cap,cur,h2,h3,h4⟩
  ·exact .inl h2
  ·exact .inr ⟨g,cap,cur,h2,by omega,h4⟩
 rcases hown.2 with⟨rfl,rfl⟩|⟨g,cap,cur,rfl,hb,hg,hn,hm,hs,htake⟩
 ·obtain rfl:xs=[]:=List.eq_nil_of_length_eq_zero (by simpa using hown.1)
  obtain⟨v',w',r1,r2,r3,_⟩:=run_append_own (P:=P) w w.heap.size t ty e i z size bytes ht hi hz hsize hby hzs hsz (.slice none 0 0) 0 [] (World.ownsRow_nil w _ e size) a m c news hl hnews h1 h63 hbytes (Nat.le_refl _)
  exact⟨v',w',r1,(mono r2).1, .inr ⟨r3,(mono r2).2⟩⟩
 ·by_cases hroom:n+m<=cap
  ·obtain⟨w',r1,r2,r3⟩:=run_append_fits (P:=P) w base t ty e i size ht hi hsize g n cap xs hown a m c news hl hnews h1 hroom
   exact⟨_,w',r1,r2, .inl ⟨rfl,r3⟩⟩
  ·have hcells:∀j u,xs[j]? =some u->w.cell? ((⟨g,0,none⟩:Addr).add j)=some u:=hown.cells rfl;obtain⟨v',w',r1,r2,r3⟩:=run_append_arg_grows (P:=P) w t ty e i z size bytes ht hi hz hsize hby hzs hsz ⟨g,0,none⟩ n cap xs hown.1 hcells a m c news hl hnews (by omega) h63 hbytes
   exact⟨v',w',r1,(mono r2).1, .inr ⟨r3,(mono r2).2⟩⟩
theorem kU{P:Program}(w:World){ops:Array Oper}{rest:List Oper}{o:Oper}{a:Act}{Q:Exit->Act->World->Prop}(hgd:o.guard=none)(s x:Operand)(t:TypeId)
 (ho:o.op= .call {callee:= .builtin .append,args:= #[s,x],argTypes:= #[t,t]})
 (base:Nat) (e:TypeId) (i:TypeInfo) (z:Value) (size bytes:Nat) (ht:P.underlying t=some (.slice e)) (hi:P.info? e=some i) (hz:i.zero=some z)
 (hsize:i.size=size) (hby:i.bytes=bytes) (hzs:z.cells.size=size) (hsz:0<size)
 (v:Value) (n:Nat) (xs:List Value) (hs:a.eval s=v) (hown:w.ownsRow base e size v n xs)
 (ad:Addr) (m c:Nat) (news:List Value) (hx:a.eval x= .slice (some ad) m c) (hl:news.length=m*size) (hnews:∀j u,news[j]? =some u->w.cell? (ad.add j)=some u) (h1:∀u∈news,u.oneCell'=true)
 (h63:n+m<=maxLen) (hbytes:(n+m)*bytes<=140737488355328) (hbase:base<=w.heap.size)
 (h:∀v' w',w'.ownsRow base e size v' (n+m) (xs++news)->kN w w' v v'->wpList P ops Q rest (a.put o.dst v') w'):wpList P ops Q (o::rest) a w:=by
 refine wpList_plain hgd fun K hK=>?_;obtain⟨v',w',hrun,r1,r2⟩:=uJ (P:=P) w base t o.type e i z size bytes ht hi hz hsize hby hzs hsz v n xs hown ad m c news hl hnews h1 h63 hbytes hbase
 unfold Oper.wp;simp[execOp,ho,resolve,invoke,builtin,hs,hx,hrun,Result.andThen];exact hK _ _ (h v' w' r1 r2)
theorem kN.by{w w':World}{v v':Value}(h:kN w w' v v'):w.grownBy w' v.ownBlock:=by
 rcases h with h|h
 ·exact h.2
 ·exact⟨h.1.os,h.1.tape,h.1.output,h.1.size,fun k hk _=>h.1.block k hk (by simp)⟩
structure Th where
 v:Value
 e:TypeId
 size:Nat
 n:Nat
 xs:List Value
structure Thg (w:World) (B K:Nat) (F:Nat->Th):Prop where
 own:∀j,j<K->w.ownsRow B (F j).e (F j).size (F j).v (F j).n (F j).xs
 sep:∀i j,i<K->j<K->i≠j->∀g,(F i).v.ownBlock=some g->(F j).v.ownBlock≠some g
theorem Thg.kin{w w':World}{B K:Nat}{F:Nat->Th}(h:Thg w B K F)(k:Kin w w'):Thg w' B K F:=⟨fun j hj=>jH (h.own j hj) k,h.sep⟩
theorem Thg.upd{w w':World}{B K:Nat}{F:Nat->Th}(h:Thg w B K F){i:Nat}(hi:i<K){t:Th}(hg:kN w w' (F i).v t.v)(ho:w'.ownsRow B t.e t.size t.v t.n t.xs):Thg w' B K (fun j=>if j=i then t else F j):=by
 have hby:=hg.by
 have key:∀j,j<K->j≠i->∀g,(F j).v.ownBlock=some g->t.v.ownBlock≠some g:=by
  intro j hj hne g hgj e;rcases hg with⟨h1,_⟩|⟨_,h2⟩
  ·rw[h1] at e;exact h.sep j i hj hi hne g hgj e
  ·have:=h2 g e
   have:=((h.own j hj).lt g hgj).2
   omega
 refine⟨fun j hj=>?_,fun a b ha hb hab g hga hgb=>?_⟩
 ·by_cases e:j=i
  ·subst e;simpa using ho
  ·simp only[if_neg e];refine(h.own j hj).kept hby ?_;cases hb:(F j).v.ownBlock with
   |none=>exact .inl rfl
   |some g=>
    right;intro e2;exact h.sep j i hj hi e g hb e2.symm
 ·by_cases e1:a=i
  ·subst e1;simp only[if_true,if_neg (Ne.symm hab)] at hga hgb;exact key b hb (Ne.symm hab) g hgb hga
  ·by_cases e2:b=i
   ·subst e2;simp only[if_true,if_neg e1] at hga hgb;exact key a ha e1 g hga hgb
   ·simp only[if_neg e1,if_neg e2] at hga hgb;exact h.sep a b ha hb hab g hga hgb
theorem NodesAt.kept{w w':World}{v:Value}{l:List Nd}{row:Option Nat}(h:NodesAt w v l)(hg:w.grownBy w' row)(hne:∀g,v.ownBlock=some g->row≠some g):NodesAt w' v l:=by
 obtain⟨b,cap,h1,h2,h3⟩:=h
 refine⟨b,cap,h1,h2,fun hl=>?_⟩;obtain⟨g,off,h4,h5⟩:=h3 hl
 refine⟨g,off,h4,fun j n hj x c hc=>?_⟩;exact hg.cell (h5 j n hj x c hc) (fun e=>hne g (by rw[h1,h4];rfl) e.symm)
theorem NodesAt.front{w w1:World}{B n n':Nat}{v x:Value}{l m:List Nd}{xs:List Value}(hform:w1.ownsRow B 50 6 v n xs)(hn:l.length=n)(hb:x.ownBlock=v.ownBlock)(ho:w.ownsRow B 50 6 x n' (ndCells (l++m))):NodesAt w v l:=by
 rcases hform.2 with⟨rfl,h0⟩|⟨g,cap,cur,rfl,_,_,hc,_⟩
 ·exact⟨none,0,by rw[hn,h0],by omega,fun hl=>absurd (List.eq_nil_of_length_eq_zero (by omega)) hl⟩
 ·refine⟨_,cap,by rw[hn],by omega,fun _=>⟨g,0,rfl,fun j nd hj k c hk=>?_⟩⟩
  have hk6:k<6:=by have:=(List.getElem?_eq_some_iff.1 hk).1;simpa [Nd.cells] using this
  have hj2:(l++m)[j]? =some nd:=by rw[List.getElem?_append_left (List.getElem?_eq_some_iff.1 hj).1];exact hj
  rcases ho.2 with⟨rfl,_⟩|⟨g',cap',cur',rfl,_⟩
  ·simp[Value.ownBlock] at hb
  ·simp[Value.ownBlock] at hb;subst hb;have:=ho.cells rfl (j*6+k) c ((nd_get hj2 k hk6).trans hk)
   rw[show((⟨g',0,none⟩:Addr).add (j*6+k))=⟨g',j*6+k,none⟩ from by unfold Addr.add;split<;>simp_all] at this
   rw[show 0+j*6+k=j*6+k from by omega]
   exact this
def lngL(k n i:Nat):List Nd:=markL k n++List.replicate i (behN k)
def OldV(w:World)(vs:List Value)(f:Nat->List Nd):Prop:=∀(j:Nat) v,vs[j]? =some v->NodesAt w v (markL j (f j).length)
theorem OldV.kin{w w':World}{vs:List Value}{f:Nat->List Nd}(h:OldV w vs f)(k:Kin w w'):OldV w' vs f:=fun j v hv=>(h j v hv).kin k
theorem OldV.step{w1 w w':World}{B N k n' i:Nat}{vs:List Value}{f:Nat->List Nd}{v x x':Value}(h:OldV w vs f)(hs:Sep vs)(hN:∀(j:Nat) v b,vs[j]? =some v->v.ownBlock=some b->b<N)(hv:vs[k]? =some v)(hform:w1.ownsRow B 50 6 v (f k).length (ndCells (markL k (f k).length)))(hxb:x.ownBlock=v.ownBlock\/∀g,x.ownBlock=some g->N<=g)(hg:kN w w' x x')(ho:w'.ownsRow B 50 6 x' n' (ndCells (lngL k (f k).length i))):OldV w' vs f:=by
 intro j u hu;rcases hg with⟨h1,h2⟩|⟨h1,_⟩
 ·rcases hxb with e|e
  ·by_cases hj:j=k
   ·subst hj;rw[hv] at hu;cases hu;exact NodesAt.front hform (by simp[markL]) (h1.trans e) ho
   ·refine(h j u hu).kept h2 fun g hg e2=>?_;rw[e] at e2;exact hs j k u v g hj hu hv hg e2
  ·refine(h j u hu).kept h2 fun g hg e2=>?_;have:=hN j u g hu hg
   have:=e g e2
   omega
 ·exact(h j u hu).kept h1 (fun g _=>by simp)
theorem OldV.other{w w':World}{N:Nat}{vs:List Value}{f:Nat->List Nd}{x x':Value}(h:OldV w vs f)(hN:∀(j:Nat) v b,vs[j]? =some v->v.ownBlock=some b->b<N)(hx:∀g,x.ownBlock=some g->N<=g)(hg:kN w w' x x'):OldV w' vs f:=by
 intro j u hu;refine(h j u hu).kept hg.by fun g hg e2=>?_
 have:=hN j u g hu hg
 have:=hx g e2
 omega
theorem newc(w:World)(cs:Array Value)(e:TypeId)(l:List Value)(hl:cs.toList=l):∀(j:Nat) (u:Value),l[j]? =some u->(w.alloc (.cells cs e)).cell? ((⟨w.heap.size,0,none⟩:Addr).add j)=some u:=by
 intro j u hu;have h:=heap_alloc_new w (.cells cs e);rw[show((⟨w.heap.size,0,none⟩:Addr).add j)=⟨w.heap.size,j,none⟩ from by unfold Addr.add;split<;>simp_all]
 unfold World.cell?
 rw[h];rw[<-hl] at hu;simpa using hu
def Gt(vs:List Value)(f:Nat->List Nd)(lv lg:Value)(m:Nat)(ws:Nat->Value)(k:Nat)(x:Value)(i:Nat):Nat->Th
 |0=>⟨lv,25,1,vs.length,vs⟩
 |1=>⟨lg,25,1,m,(List.range m).map ws⟩
 |j+2=>if j<k then ⟨ws j,50,6,(f j).length+20,ndCells (lngL j (f j).length 20)⟩ else if j=k then ⟨x,50,6,(f k).length+i,ndCells (lngL k (f k).length i)⟩ else ⟨vs.getD j (.slice none 0 0),50,6,(f j).length,ndCells (markL j (f j).length)⟩
theorem xz{w w':World}{g x:Nat}{v:Value}(K:Kin w w')(h:w.cell? ⟨g,x,none⟩=some v):w'.cell? ⟨g,x,none⟩=some v:=(K.cell (World.block_lt_of_cell? w ⟨g,x,none⟩ h)).trans h
theorem yH{w:World}{o:Obj}{g x:Nat}{v:Value}(h:w.cell? ⟨g,x,none⟩=some v):(w.alloc o).cell? ⟨g,x,none⟩=some v:=xz ((Kin.refl w).alloc o) h
theorem yq{w:World}{o:Obj}{g x:Nat}{v:Value}(h:w.cell? ⟨g,x,none⟩=some v):(w.alloc o).drew.cell? ⟨g,x,none⟩=some v:=xz (zhH w o) h
section
variable {P:Program} {md:Region.Mode} {ops:Array Oper} {Q:Exit->Act->World->Prop} {S:World->Prop} {fuel:Nat} {oi:Oper} {v:Value} {listed:Array Bool} {a:Act} {w:World}
theorem tk(i:Nat){a':Act}(h:wpAnyH P md ops Q S fuel (listed.setIfInBounds i true) a' w)(hi:ops[i]? =some oi:=by(simp only[List.getElem?_toArray,List.getElem?_cons_succ,List.getElem?_cons_zero];try exact rfl))
 (hs:Region.noSelect ops=true:=by kernel_rfl) (hf:Region.free md ops listed i=true:=by kernel_rfl) (hr:(Region.ready md ops listed).contains i=true:=by kernel_rfl)
 (hQ:∀c a w,Q (.panic c) (a.put oi.dst v) w->Q (.panic c) a w:=by exact fun _ _ _ h=>h) (hw:Region.wanted oi (yielded ops a.tmps)=true:=by rfl)
 (hy:∀w,S w->(execOp a.eval oi).run P w= .ok (.value v) w:=by(intro w hSw;(try dsimp only at hSw);go_simp;try with_reducible rfl)) (hS:S w:=by assumption)
 (ha:a.put oi.dst v=a':=by((conv=>lhs;simp only[Act.put,List.setIfInBounds_toArray,List.set_cons_zero,List.set_cons_succ]);try exact rfl)):wpAnyH P md ops Q S (fuel+1) listed a w:=
 wpAnyH_take hi hs hf hr hQ (.inl ⟨hw,hy⟩) hS (by rw[ha];exact h)
theorem tu(i:Nat){a':Act}(h:wpAnyH P md ops Q S fuel (listed.setIfInBounds i true) a' w)(hi:ops[i]? =some oi:=by(simp only[List.getElem?_toArray,List.getElem?_cons_succ,List.getElem?_cons_zero];try exact rfl))
 (hs:Region.noSelect ops=true:=by kernel_rfl) (hf:Region.free md ops listed i=true:=by kernel_rfl) (hr:(Region.ready md ops listed).contains i=true:=by kernel_rfl)
 (hQ:∀c a w,Q (.panic c) (a.put oi.dst undef) w->Q (.panic c) a w:=by exact fun _ _ _ h=>h) (hw:Region.wanted oi (yielded ops a.tmps)=false:=by rfl) (hS:S w:=by assumption)
 (ha:a.put oi.dst undef=a':=by((conv=>lhs;simp only[Act.put,List.setIfInBounds_toArray,List.set_cons_zero,List.set_cons_succ]);try exact rfl)):wpAnyH P md ops Q S (fuel+1) listed a w:=
 wpAnyH_take hi hs hf hr hQ (.inr ⟨hw,rfl⟩) hS (by rw[ha];exact h)
end
def zha(w:World)(r:Nat)(hb:Option Addr)(hn:Nat):Prop:=hn≠0->∃g off,hb=some ⟨g,off,none⟩/\g≠r/\∀j,j<hn->∃x,w.cell? ⟨g,off+j,none⟩=some (.int .i64 x)
theorem uP(r u hn hc:Nat)(hb:Option Addr)(m:Nat)(hm:0<m)(hm2:m<=1000)(hu:u<=1000000000)(hn2:hn<=9223372036854775807)(w:World)(c4:w.cell? ⟨r,4,none⟩=some (.slice hb hn hc))(c5:w.cell? ⟨r,5,none⟩=some (.int .i64 u))(f5:w.frozen? ⟨r,5,none⟩=false)(hh:zha w r hb hn)(hcap:hn<=hc):
 Calls Tryz.prog 135 #[.pointer (some ⟨r,0,none⟩), .int .i64 m] w fun e w'=>(∃k:Nat,k<m/\e= .returned (.int .i64 k))/\∃n,w'=(w.setCell ⟨r,5,none⟩ (.int .i64 ((u:Int)+1))).drewN n:=by
 have HH:=Lib.hid hh;clear hh;by_cases hlt:hn<u+1
 ·have hd:decide ((hn:Int)<(u:Int)+1)=true:=decide_eq_true (by omega)
  go_enter Tryz.func135,Tryz.ntmps135;go_wp2;all_goals (
   go_quiet (fail)
   all_goals (
    go_wp2;refine bodyPost_ret (v:= .int .i64 0) (by simp[results,Tryz.f135,go_sem];try rfl) rfl ?_
    exact⟨⟨0,hm,rfl⟩,_,rfl⟩))
 ·have hd:decide ((hn:Int)<(u:Int)+1)=false:=decide_eq_false (by omega)
  obtain⟨g,off,rfl,hgr,hx⟩:=HH.out (by omega)
  obtain⟨x,hx⟩:=hx u (by omega)
  have hun:u<hn:=by omega
  have hun2:(u:Int)<(hn:Int):=by omega
  have hun3:(0:Int)<=(u:Int):=by omega
  have hwr:IntKind.i64.wrap (u:Int)=(u:Int):=Go.IntWalk.i64_in _ (by omega)
  go_enter Tryz.func135,Tryz.ntmps135;go_wp2;all_goals (
   go_quiet (fail)
   all_goals (
    go_wp2;go_region_with (go_at_call 23;refine(zfC x m hm (by omega) _).mono ?_;rintro e w' ⟨⟨k,hk,rfl⟩,rfl⟩)
    all_goals (
     go_wp2;exact bodyPost_ret (v:= .int .i64 k) (by simp[results,Tryz.f135,go_sem];try rfl) rfl ⟨⟨k,hk,rfl⟩,_,rfl⟩)))
structure WCx where
 r:Nat
 g:Nat
 ns:List Nd
 nb:Option Addr
 nc:Nat
 hb:Option Addr
 hn:Nat
 hc:Nat
 w0:World
 nodes:NodesAt w0 (.slice nb ns.length nc) ns
 how:hn≠0->∃g off,hb=some ⟨g,off,none⟩/\∀j,j<hn->∃x,w0.cell? ⟨g,off+j,none⟩=some (.int .i64 x)
 hcap:hn<=hc
 hn2:hn<=9223372036854775807
 ns2:ns.length<=300
 fills:∀(k:Nat) f,zd[k]? =some f->w0.cell? ⟨3,k,none⟩=some (.string ⟨f.toArray⟩)
 names:∀k:Nat,k<16->w0.cell? ⟨4,k,none⟩=some (.string (opName k))
 lr:w0.heap.size<=r
 lg:w0.heap.size<=g
 rg:r≠g
structure Wr (C:WCx) (w:World) (at_ u:Nat) (T:ByteArray) (pl:List Int):Prop where
 kin:Kin C.w0 w
 hr:w.heap[C.r]? =some (.cells #[.slice C.nb C.ns.length C.nc, .int .i64 at_, .string T, .slice (some ⟨C.g,0,none⟩) C.ns.length C.ns.length, .slice C.hb C.hn C.hc, .int .i64 u] 110 (0,0))
 hg:w.heap[C.g]? =some (.cells (pl.map (Value.int .i64)).toArray 3 (0,0))
 hl:pl.length=C.ns.length
structure Wm (C:WCx) (w w':World):Prop where
 os:w'.os=w.os
 out:w'.output=w.output
 size:w.heap.size<=w'.heap.size
 block:∀k,k<w.heap.size->k≠C.r->k≠C.g->w'.heap[k]? =w.heap[k]?
theorem Wm.refl(C:WCx)(w:World):Wm C w w:=⟨rfl,rfl,Nat.le_refl _,fun _ _ _ _=>rfl⟩
theorem Wm.trans{C:WCx}{a b c:World}(h:Wm C a b)(k:Wm C b c):Wm C a c:=⟨k.os.trans h.os,k.out.trans h.out,Nat.le_trans h.size k.size,fun j hj h1 h2=>(k.block j (Nat.lt_of_lt_of_le hj h.size) h1 h2).trans (h.block j hj h1 h2)⟩
theorem kD{w:World}{b k:Nat}{cs:Array Value}{t:TypeId}{fz:Nat×Nat}{v:Value}(h:w.heap[b]? =some (.cells cs t fz)):(w.setCell ⟨b,k,none⟩ v).heap[b]? =some (.cells (cs.setIfInBounds k v) t fz):=by
 have hlt:=lt_of_block h;have h':w.heap[b]= .cells cs t fz:=by simpa [Array.getElem?_eq_getElem hlt] using h
 show(w.heap.modify b _)[b]? =_
 rw[Array.getElem?_eq_getElem (by simpa using hlt),Array.getElem_modify_self,h']
 rfl
theorem xI{w:World}{b c k:Nat}{v:Value}(h:c≠b):(w.setCell ⟨b,k,none⟩ v).heap[c]? =w.heap[c]? :=Below.heap_setCell w ⟨b,k,none⟩ v c h
theorem zaf(w:World)(a:Addr)(v:Value):(w.setCell a v).heap.size=w.heap.size:=by show(w.heap.modify _ _).size=_;simp
theorem Wm.setR(C:WCx)(w:World)(k:Nat)(v:Value):Wm C w (w.setCell ⟨C.r,k,none⟩ v):=⟨rfl,rfl,by rw[zaf];exact Nat.le_refl _,fun j _ h1 _=>xI h1⟩
theorem Wm.setG(C:WCx)(w:World)(k:Nat)(v:Value):Wm C w (w.setCell ⟨C.g,k,none⟩ v):=⟨rfl,rfl,by rw[zaf];exact Nat.le_refl _,fun j _ _ h2=>xI h2⟩
theorem Wm.drew{C:WCx}{w w':World}(h:Wm C w w')(n:Nat):Wm C w (w'.drewN n):=⟨h.os,h.out,h.size,h.block⟩
theorem Wm.alloc{C:WCx}{w w':World}(h:Wm C w w')(o:Obj):Wm C w (w'.alloc o):=⟨h.os,h.out,by simp only[World.size_alloc];have:=h.size;omega,fun k hk h1 h2=>(Below.heap_alloc w' o k (Nat.lt_of_lt_of_le hk h.size)).trans (h.block k hk h1 h2)⟩
section
variable {C:WCx} {w w':World} {at_ u:Nat} {T:ByteArray} {pl:List Int}
theorem Wr.kinW(h:Wr C w at_ u T pl)(m:Wm C w w'):Kin C.w0 w':=⟨m.os.trans h.kin.os,m.out.trans h.kin.out,Nat.le_trans h.kin.size m.size,fun k hk=>(m.block k (Nat.lt_of_lt_of_le hk h.kin.size) (by have:=C.lr;omega) (by have:=C.lg;omega)).trans (h.kin.block k hk)⟩
theorem Wr.used(h:Wr C w at_ u T pl):Wr C (w.setCell ⟨C.r,5,none⟩ (.int .i64 ((u:Int)+1))) at_ (u+1) T pl:=
 ⟨h.kinW (Wm.setR C w _ _),by rw[kD h.hr];rfl,by rw[xI (Ne.symm C.rg)];exact h.hg,h.hl⟩
theorem Wr.text(h:Wr C w at_ u T pl)(T':ByteArray):Wr C (w.setCell ⟨C.r,2,none⟩ (.string T')) at_ u T' pl:=
 ⟨h.kinW (Wm.setR C w _ _),by rw[kD h.hr];rfl,by rw[xI (Ne.symm C.rg)];exact h.hg,h.hl⟩
theorem Wr.next(h:Wr C w at_ u T pl):Wr C (w.setCell ⟨C.r,1,none⟩ (.int .i64 ((at_:Int)+1))) (at_+1) u T pl:=
 ⟨h.kinW (Wm.setR C w _ _),by rw[kD h.hr];rfl,by rw[xI (Ne.symm C.rg)];exact h.hg,h.hl⟩
theorem Wr.place(h:Wr C w at_ u T pl)(j:Nat)(x:Int):Wr C (w.setCell ⟨C.g,j,none⟩ (.int .i64 x)) at_ u T (pl.set j x):=
 ⟨h.kinW (Wm.setG C w _ _),by rw[xI C.rg];exact h.hr,by
  rw[kD h.hg]
  congr 2;apply Array.ext';simp[List.map_set],by rw[List.length_set];exact h.hl⟩
theorem Wr.drew(h:Wr C w at_ u T pl)(n:Nat):Wr C (w.drewN n) at_ u T pl:=⟨h.kin.drewN n,h.hr,h.hg,h.hl⟩
theorem Wr.drew1(h:Wr C w at_ u T pl):Wr C w.drew at_ u T pl:=⟨h.kin.drewN 1,h.hr,h.hg,h.hl⟩
theorem Wr.alloc(h:Wr C w at_ u T pl)(o:Obj):Wr C (w.alloc o) at_ u T pl:=
 ⟨h.kin.alloc o,(Below.heap_alloc w o C.r (lt_of_block h.hr)).trans h.hr,(Below.heap_alloc w o C.g (lt_of_block h.hg)).trans h.hg,h.hl⟩
theorem Wr.cells(h:Wr C w at_ u T pl):w.cell? ⟨C.r,0,none⟩=some (.slice C.nb C.ns.length C.nc)/\w.cell? ⟨C.r,1,none⟩=some (.int .i64 at_)/\w.cell? ⟨C.r,2,none⟩=some (.string T)/\w.cell? ⟨C.r,3,none⟩=some (.slice (some ⟨C.g,0,none⟩) C.ns.length C.ns.length)/\w.cell? ⟨C.r,4,none⟩=some (.slice C.hb C.hn C.hc)/\w.cell? ⟨C.r,5,none⟩=some (.int .i64 u):=by
 have:=h.hr
 refine⟨?_,?_,?_,?_,?_,?_⟩<;>simp[World.cell?,this]
theorem Wr.free(h:Wr C w at_ u T pl)(k:Nat)(hk:k<6):w.frozen? ⟨C.r,k,none⟩=false:=by
 have:=h.hr
 simp[World.frozen?,this]
theorem Wr.howAt(h:Wr C w at_ u T pl):zha w C.r C.hb C.hn:=fun h0=>by
 obtain⟨g,off,e,hx⟩:=C.how h0
 obtain⟨x,hx0⟩:=hx 0 (by omega)
 have hlt:=World.block_lt_of_cell? C.w0 _ hx0;simp only at hlt
 refine⟨g,off,e,by have:=C.lr;omega,fun j hj=>?_⟩
 obtain⟨x,hx⟩:=hx j hj
 exact⟨x,xz h.kin hx⟩
theorem Wr.fill(h:Wr C w at_ u T pl)(k:Nat)(hk:k<5):∃f∈zd,w.cell? ⟨3,k,none⟩=some (.string ⟨f.toArray⟩):=by
 have hf:zd[k]? =some (zd.getD k []):=by
  match k,hk with
  |0,_=>rfl
  |1,_=>rfl
  |2,_=>rfl
  |3,_=>rfl
  |4,_=>rfl
 exact⟨_,List.mem_of_getElem? hf,xz h.kin (C.fills k _ hf)⟩
end
theorem zhZ(k:Nat)(hk:k<5):∃f,zd[k]? =some f/\f∈zd:=⟨zd.getD k [],by match k,hk with|0,_=>rfl|1,_=>rfl|2,_=>rfl|3,_=>rfl|4,_=>rfl,by match k,hk with|0,_=>decide|1,_=>decide|2,_=>decide|3,_=>decide|4,_=>decide⟩
theorem zg(f:List UInt8)(h:f∈zd):f.length<=6/\1<=f.length:=(show ∀f∈zd,f.length<=6/\1<=f.length by decide) f h
def WPost(C:WCx)(w:World)(P:World->Prop):Ending->World->Prop
 | .returned v,w'=>v= .tuple #[]/\P w'/\Wm C w w'
 |_,_=>False
theorem zH(C:WCx)(at_ u:Nat)(T s:ByteArray)(pl:List Int)(w:World)(h:Wr C w at_ u T pl)(hu:u<=1000000)(hT:T.size<=1000000)(hs:s.size<=1000):
 Calls Tryz.prog 103 #[.pointer (some ⟨C.r,0,none⟩), .string s] w (WPost C w fun w'=>∃f∈zd,Wr C w' at_ (u+1) (T++⟨f.toArray⟩++s) pl):=by
 have H:=Lib.hid h;obtain⟨c0,c1,c2,c3,c4,c5⟩:=h.cells
 have f2:=h.free 2 (by omega)
 have hrl:=lt_of_block h.hr;clear h c0 c1 c3 c4 c5;go_enter Tryz.func103,Tryz.ntmps103;go_wp2_with fail;go_region_with (go_at_call 135;refine(uP C.r u C.hn C.hc C.hb 5 (by omega) (by omega) (by omega) C.hn2 _ (H.out.drew1).cells.2.2.2.2.1 (H.out.drew1).cells.2.2.2.2.2 ((H.out.drew1).free 5 (by omega)) (H.out.drew1).howAt C.hcap).mono ?_;rintro e w' ⟨⟨k,hk,rfl⟩,n,rfl⟩;have H2:=Lib.hid (H.out.used.drew (1+n));obtain⟨f,hf,hcf⟩:=zhZ k hk;have hfl:=zg f hcf;have b1:¬9223372036854775807<T.size+f.length:=(by omega);have b2:¬9223372036854775807<T.size+f.length+s.size:=(by omega);have hk5:(k:Int)<5:=(by omega);have hk0:(0:Int)<=(k:Int):=(by omega);have d3:=xz H2.out.kin (C.fills k f hf);have HF:=Lib.hid hcf;clear hcf hf)
 all_goals (
  have H3:=Lib.hid (H2.out.text (T++⟨f.toArray⟩++s));exact⟨rfl, .tuple #[],by simp[results,Tryz.f103],rfl,⟨f,HF.out,H3.out⟩,(((Wm.setR C w _ _).drew _).trans (Wm.setR C _ _ _))⟩)
theorem WPost.go{C:WCx}{f:FuncId}{args:Array Value}{w:World}{P:World->Prop}{R:Ending->World->Prop}(h:Calls Tryz.prog f args w (WPost C w P))(k:∀w',P w'->Wm C w w'->R (.returned (.tuple #[])) w'):Calls Tryz.prog f args w R:=
 h.mono fun e w' hp=>by
  cases e with
  |outgrown=>exact hp.elim
  |panicked _=>exact hp.elim
  |returned v=>
   obtain⟨rfl,h1,h2⟩:=hp
   exact k w' h1 h2
theorem Wr.pcell{C:WCx}{w:World}{at_ u:Nat}{T:ByteArray}{pl:List Int}(h:Wr C w at_ u T pl)(j:Nat)(hj:j<C.ns.length):w.cell? ⟨C.g,j,none⟩=some (.int .i64 (pl.getD j 0))/\w.frozen? ⟨C.g,j,none⟩=false:=by
 have hg:=h.hg;have hl:=h.hl;refine⟨?_,by simp[World.frozen?,hg]⟩
 simp[World.cell?,hg,List.getD_eq_getElem?_getD,List.getElem?_eq_getElem (show j<pl.length by omega)]
theorem zW(C:WCx)(at_ u:Nat)(T s:ByteArray)(pl:List Int)(w:World)(h:Wr C w at_ u T pl)(hat:at_<C.ns.length)(hu:u<=1000000)(hT:T.size<=1000000)(hs:s.size<=1000):
 Calls Tryz.prog 102 #[.pointer (some ⟨C.r,0,none⟩), .string s] w (WPost C w fun w'=>∃f∈zd,Wr C w' (at_+1) (u+1) (T++⟨f.toArray⟩++s) (pl.set at_ ((T.size:Int)+(f.length:Int)))):=by
 have H:=Lib.hid h;have HAT:=Lib.hid hat;have hns:=C.ns2;have hat0:(0:Int)<=(at_:Int):=by omega
 have hat1:(at_:Int)<(C.ns.length:Int):=by omega
 have hrg:=C.rg;clear h;go_enter Tryz.func102,Tryz.ntmps102;go_wp2_with (go_at_call 103;refine WPost.go (zH C at_ u T s pl _ H.out hu hT hs) ?_;rintro w1 ⟨f,hf,hw⟩ hm;have HF:=Lib.hid hf;have HW:=Lib.hid hw;have HM:=Lib.hid hm;have hfl:=zg f hf;have hwr:=Go.IntWalk.i64_in ((T.size:Int)+(f.length:Int)) (by omega);obtain⟨d0,d1,d2,d3,d4,d5⟩:=hw.cells;have d6:=(hw.pcell at_ HAT.out).1;have d7:=(hw.pcell at_ HAT.out).2;have d8:=hw.free 1 (by omega);clear hf hw hm d0 d4 d5);go_region_with (fail)
 all_goals (
  go_wp2_with fail;exact⟨rfl, .tuple #[],by simp[results,Tryz.f102],rfl,⟨f,HF.out,(HW.out.drew1.place at_ _).next⟩,HM.out.trans (((Wm.refl C w1).drew 1).trans ((Wm.setG C _ _ _).trans (Wm.setR C _ _ _)))⟩)
def lvlI(n:Nd):Int:=if n.kind=14 then 6 else if n.kind≠15 then 7 else if n.op=15 then 1 else if n.op=14 then 2 else if n.op=3\/n.op=4 then 4 else if n.op=5\/n.op=6\/n.op=7 then 5 else 3
theorem level_any(n:Nd)(w:World):Calls Tryz.prog 137 #[.agg n.cells.toArray] w fun e w'=>e= .returned (.int .i64 (lvlI n))/\Kin w w':=by
 obtain⟨d,kd,nm,x,o,a⟩:=n
 unfold lvlI Nd.cells;dsimp only;go_enter Tryz.func137,Tryz.ntmps137;go_wp2;all_goals (
  go_ret;exact⟨by simp_all,(Kin.refl w).alloc _⟩)
theorem Wr.of_kin{C:WCx}{w w':World}{at_ u:Nat}{T:ByteArray}{pl:List Int}(h:Wr C w at_ u T pl)(k:Kin w w'):Wr C w' at_ u T pl:=
 ⟨h.kin.trans k,(k.block _ (lt_of_block h.hr)).trans h.hr,(k.block _ (lt_of_block h.hg)).trans h.hg,h.hl⟩
theorem Wm.of_kin{C:WCx}{w w':World}(k:Kin w w'):Wm C w w':=⟨k.os,k.out,k.size,fun j hj _ _=>k.block j hj⟩
end Go.Proofs.YtonmcakdofbjiaaGreatDoor
namespace Go.Proofs
open Go.Shelf
def Tryz.laysM246_ren:Go.Shelf.Ren:=⟨fun|246=>136|283=>162|284=>163|285=>164|286=>165|129=>175|317=>174|318=>176|319=>177|320=>178|337=>182|338=>183|n=>n,fun|2=>2|3=>3|9=>9|4=>4|171=>216|0=>0|53=>217|37=>220|5=>5|173=>221|212=>231|51=>232|20=>20|213=>233|46=>234|232=>245|233=>246|n=>n,fun|17=>5|18=>6|19=>7|n=>n⟩
theorem Tryz.laysM246:Go.Proofs.LaysM.n246 Tryz.prog Tryz.laysM246_ren:={
 mixed:=by kernel_rfl
 f129:=Tryz.func175.trans (congrArg some (by kernel_rfl))
 f246:=Tryz.func136.trans (congrArg some (by kernel_rfl))
 f283:=Tryz.func162.trans (congrArg some (by kernel_rfl))
 f284:=Tryz.func163.trans (congrArg some (by kernel_rfl))
 f285:=Tryz.func164.trans (congrArg some (by kernel_rfl))
 f286:=Tryz.func165.trans (congrArg some (by kernel_rfl))
 f317:=Tryz.func174.trans (congrArg some (by kernel_rfl))
 f318:=Tryz.func176.trans (congrArg some (by kernel_rfl))
 f319:=Tryz.func177.trans (congrArg some (by kernel_rfl))
 f320:=Tryz.func178.trans (congrArg some (by kernel_rfl))
 f337:=Tryz.func182.trans (congrArg some (by kernel_rfl))
 f338:=Tryz.func183.trans (congrArg some (by kernel_rfl))
 t0:=Tryz.underlying0
 a0:=Tryz.isAgg0
 z0:=Tryz.sizeOf0
 v0:=Tryz.zeroValue0
 t2:=Tryz.underlying2
 a2:=Tryz.isAgg2
 z2:=Tryz.sizeOf2
 v2:=Tryz.zeroValue2
 t3:=Tryz.underlying3
 a3:=Tryz.isAgg3
 z3:=Tryz.sizeOf3
 v3:=Tryz.zeroValue3
 t4:=Tryz.underlying4
 a4:=Tryz.isAgg4
 z4:=Tryz.sizeOf4
 v4:=Tryz.zeroValue4
 t5:=Tryz.underlying5
 a5:=Tryz.isAgg5
 z5:=Tryz.sizeOf5
 v5:=Tryz.zeroValue5
 t9:=Tryz.underlying9
 a9:=Tryz.isAgg9
 z9:=Tryz.sizeOf9
 v9:=Tryz.zeroValue9
 t20:=Tryz.underlying20
 a20:=Tryz.isAgg20
 z20:=Tryz.sizeOf20
 v20:=Tryz.zeroValue20
 t37:=Tryz.underlying220
 a37:=Tryz.isAgg220
 z37:=Tryz.sizeOf220
 v37:=Tryz.zeroValue220
 t46:=Tryz.underlying234
 a46:=Tryz.isAgg234
 z46:=Tryz.sizeOf234
 v46:=Tryz.zeroValue234
 t51:=Tryz.underlying232
 a51:=Tryz.isAgg232
 z51:=Tryz.sizeOf232
 v51:=Tryz.zeroValue232
 t53:=Tryz.underlying217
 a53:=Tryz.isAgg217
 z53:=Tryz.sizeOf217
 v53:=Tryz.zeroValue217
 t171:=Tryz.underlying216
 a171:=Tryz.isAgg216
 z171:=Tryz.sizeOf216
 v171:=Tryz.zeroValue216
 t173:=Tryz.underlying221
 a173:=Tryz.isAgg221
 z173:=Tryz.sizeOf221
 v173:=Tryz.zeroValue221
 t212:=Tryz.underlying231
 a212:=Tryz.isAgg231
 z212:=Tryz.sizeOf231
 v212:=Tryz.zeroValue231
 t213:=Tryz.underlying233
 a213:=Tryz.isAgg233
 z213:=Tryz.sizeOf233
 t232:=Tryz.underlying245
 a232:=Tryz.isAgg245
 z232:=Tryz.sizeOf245
 v232:=Tryz.zeroValue245
 t233:=Tryz.underlying246
 a233:=Tryz.isAgg246
 z233:=Tryz.sizeOf246
 v233:=Tryz.zeroValue246
 g17:=by kernel_rfl
 g18:=by kernel_rfl
 g19:=by kernel_rfl
 i0:=by kernel_rfl
 i2:=by kernel_rfl
 i3:=by kernel_rfl
 i4:=by kernel_rfl
 i5:=by kernel_rfl
 i9:=by kernel_rfl
 i20:=by kernel_rfl
 i37:=by kernel_rfl
 i46:=by kernel_rfl
 i51:=by kernel_rfl
 i53:=by kernel_rfl
 i171:=by kernel_rfl
 i173:=by kernel_rfl
 i212:=by kernel_rfl
 i232:=by kernel_rfl
 i233:=by kernel_rfl
 m17:=by kernel_rfl
 m18:=by kernel_rfl
 m19:=by kernel_rfl}
open Go.RowKit Go.Sort Go.Lib in
theorem Tryz.internal_strconv_FormatInt_10(n:Int)(h0: -9223372036854775808<=n)(h1:n<=9223372036854775807)(w:World)(htab:Lib.TabIs Tryz.prog w "internal/strconv.uint64pow10" .u64 Lib.pow10Tab):
 Calls Tryz.prog 136 #[.int .i64 n, .int .i64 10] w fun e w'=>e= .returned (.string ⟨(Lib.itoa n).toArray⟩)/\∃k os,w'=grow (w.drewN k) os:=Any.internal_strconv_FormatInt_10 Tryz.laysM246 n h0 h1 w htab
end Go.Proofs
namespace Go.Proofs.YtonmcakdofbjiaaGreatDoor
open Go.RowKit
def TabW(w:World):Prop:=Lib.TabIs Tryz.prog w "internal/strconv.uint64pow10" .u64 Lib.pow10Tab
theorem TabW.kin{w w':World}(h:TabW w)(k:Kin w w'):TabW w':=by
 unfold TabW Lib.TabIs at*
 have hg:Tryz.prog.globalNamed "internal/strconv.uint64pow10" =some 5:=by kernel_rfl
 unfold World.var? at*
 rw[hg] at h⊢;simp only[Option.bind_some] at h⊢;have hlt:5<w.heap.size:=by
  rcases Nat.lt_or_ge 5 w.heap.size with h5|h5
  ·exact h5
  ·rw[Array.getElem?_eq_none h5] at h;cases h
 rw[k.block 5 hlt];exact h
theorem kin_grow(w:World)(k:Nat)(os:Array Obj):Kin w (Sort.grow (w.drewN k) os):=
 ⟨rfl,rfl,by show w.heap.size<=(w.heap++os).size;simp,fun j hj=>by show(w.heap++os)[j]? =_;rw[Array.getElem?_append_left hj]⟩
theorem uY(n:Int)(h0:0<=n)(h1:n<=9223372036854775807)(w:World)(ht:TabW w):Calls Tryz.prog 104 #[.int .i64 n, .int .i64 10] w fun e w'=>e= .returned (.string (digs n))/\Kin w w':=by
 have HT:=Lib.hid ht;clear ht;go_enter Tryz.func104,Tryz.ntmps104;go_wp2_with (go_at_call 136;refine(Tryz.internal_strconv_FormatInt_10 n (by omega) h1 _ HT.out).mono ?_;rintro e w' ⟨rfl,k,os,rfl⟩);go_ret;exact⟨rfl,kin_grow _ _ _⟩
def frN(n:Nat)(F:Nat->Value):Act:={tmps:=((List.range n).map F).toArray,defers:=[]}
theorem yf(n:Nat)(l:List Value)(h:l.length=n):({tmps:=l.toArray,defers:=[]}:Act)=frN n (fun k=>l.getD k undef):=by
 subst h;have:l=(List.range l.length).map (fun k=>l.getD k undef):=by
  apply List.ext_getElem
  ·simp
  ·intro k h1 h2;simp[List.getD_eq_getElem?_getD,List.getElem?_eq_getElem h1]
 unfold frN;rw[<-this]
theorem fr130(F:Nat->Value):frN 130 F={tmps:=(F 0::F 1::F 2::F 3::F 4::F 5::F 6::F 7::F 8::F 9::F 10::F 11::F 12::F 13::F 14::F 15::F 16::F 17::F 18::F 19::F 20::F 21::F 22::F 23::F 24::F 25::F 26::F 27::F 28::F 29::F 30::F 31::F 32::F 33::F 34::F 35::F 36::F 37::F 38::F 39::F 40::F 41::F 42::F 43::F 44::F 45::F 46::F 47::F 48::F 49::F 50::F 51::F 52::F 53::F 54::F 55::F 56::F 57::F 58::F 59::F 60::F 61::F 62::F 63::F 64::F 65::F 66::F 67::F 68::F 69::F 70::F 71::F 72::F 73::F 74::F 75::F 76::F 77::F 78::F 79::F 80::F 81::F 82::F 83::F 84::F 85::F 86::F 87::F 88::F 89::F 90::F 91::F 92::F 93::F 94::F 95::F 96::F 97::F 98::F 99::F 100::F 101::F 102::F 103::F 104::F 105::F 106::F 107::F 108::F 109::F 110::F 111::F 112::F 113::F 114::F 115::F 116::F 117::F 118::F 119::F 120::F 121::F 122::F 123::F 124::F 125::F 126::F 127::F 128::F 129::[]).toArray,defers:=[]}:=rfl
noncomputable def xq0:Code:=Tryz.f105.body.getD .skip
noncomputable def xq1:Code:=seqR (seqR (seqR xq0))
noncomputable def xq2:Code:=seqR xq1
theorem zip:xq0= .seq (seqL xq0) (.seq (seqL (seqR xq0)) (.seq (seqL (seqR (seqR xq0))) xq1)):=rfl
theorem zio:xq1= .seq (seqL xq1) xq2:=rfl
theorem Wr.node{C:WCx}{w:World}{at_ u:Nat}{T:ByteArray}{pl:List Int}(h:Wr C w at_ u T pl){n:Nd}(hn:C.ns[at_]? =some n):∃g off,C.nb=some ⟨g,off,none⟩/\∀(k:Nat) c,n.cells[k]? =some c->w.cell? ⟨g,off+at_*6+k,none⟩=some c:=by
 obtain⟨b,cap,e,hcap,hx⟩:=C.nodes.kin h.kin
 simp only[Value.slice.injEq] at e;obtain⟨rfl,_,rfl⟩:=e
 obtain⟨g,off,e1,e2⟩:=hx (by rintro e;rw[e] at hn;simp at hn)
 exact⟨g,off,e1,fun k c hk=>e2 at_ n hn k c hk⟩
theorem zem(C:WCx)(at_ u:Nat)(T:ByteArray)(pl:List Int)(w:World)(h:Wr C w at_ u T pl)(n:Nd)(hn:C.ns[at_]? =some n)(want:Nat)(hw:want<=10)(hu:u<=900000)(hT:T.size<=900000)(R:Ending->World->Prop)
 (HQ:Hid (∀(F:Nat->Value) (x:Nat) w1,F 0= .pointer (some ⟨C.r,0,none⟩)->F 4= .pointer (some ⟨x,0,none⟩)->w1.heap[x]? =some (.cells n.cells.toArray 50 (0,0))->w.heap.size<=x->Wm C w w1->
  ((∃f∈zd,F 5= .bool true/\Wr C w1 at_ (u+2) (T++⟨f.toArray⟩++sLp) pl)\/(F 5= .bool false/\(want:Int)<=lvlI n/\Wr C w1 at_ (u+1) T pl))->
  xq1.wp Tryz.prog (bodyPost Tryz.prog Tryz.f105 R) (frN 130 F) w1)):
 Calls Tryz.prog 105 #[.pointer (some ⟨C.r,0,none⟩), .int .i64 want] w R:=by
 have H:=Lib.hid h;have HN:=Lib.hid hn;have hns:=C.ns2;have hlt:at_<C.ns.length:=(List.getElem?_eq_some_iff.1 hn).1;have hat0:(0:Int)<=(at_:Int):=by omega
 have hat1:(at_:Int)<(C.ns.length:Int):=by omega
 obtain⟨gn,off,hnb,hcell⟩:=h.node hn
 obtain⟨d0,d1,_,_,_,_⟩:=h.cells
 obtain⟨nd,nk,nm,nx,no,na⟩:=n
 have e0:=hcell 0 _ rfl;have e1:=hcell 1 _ rfl;have e2:=hcell 2 _ rfl;have e3:=hcell 3 _ rfl;have e4:=hcell 4 _ rfl;have e5:=hcell 5 _ rfl;rw[Nat.add_zero] at e0;rw[hnb] at d0;have hgl:=World.block_lt_of_cell? w _ e0;simp only at hgl
 clear h hn hcell hnb;go_enter Tryz.func105,Tryz.ntmps105;show Code.wp Tryz.prog xq0 _ _ _;rw[zip];generalize xq1=X at HQ⊢;conv=>enter [2];simp only[xq0,seqL,seqR,Tryz.f105,Option.getD_some]
 go_wp2_with fail;refine wp_region_held_drew (S:=fun w'=>w'.cell? ⟨C.r,0,none⟩=some (.slice (some ⟨gn,off,none⟩) C.ns.length C.nc)/\w'.cell? ⟨C.r,1,none⟩=some (.int .i64 at_)/\w'.cell? ⟨gn,off+at_*6,none⟩=some (.int .i64 nd)/\w'.cell? ⟨gn,off+at_*6+1,none⟩=some (.int .i64 nk)/\w'.cell? ⟨gn,off+at_*6+2,none⟩=some (.string nm)/\w'.cell? ⟨gn,off+at_*6+3,none⟩=some (.int .i64 nx)/\w'.cell? ⟨gn,off+at_*6+4,none⟩=some (.int .i64 no)/\w'.cell? ⟨gn,off+at_*6+5,none⟩=some (.int .i64 na)) (by kernel_rfl) ⟨d0,d1,e0,e1,e2,e3,e4,e5⟩ (fun hHeld=>?_)
 refine tk 0 ?_;refine tk 1 ?_;refine tk 2 ?_;refine tk 3 ?_;refine tk 4 ?_;refine tk 5 ?_;refine tk 6 ?_;refine tk 7 ?_;refine tk 8 ?_;refine tk 9 ?_;refine wpAnyH_ready (rs:=[10]) (by kernel_rfl) (by simp) ?_
 refine AllReadyH.cons rfl (fun K hK=>?_) AllReadyH.nil;go_simp
 refine hK.out _ _ ⟨yH d0,yH d1,yH e0,yH e1,yH e2,yH e3,yH e4,yH e5⟩ (fun hHeld2=>?_);clear hK K;try simp only[Act.put,List.setIfInBounds_toArray,List.set_cons_zero,List.set_cons_succ]
 refine wpAnyH_ready (rs:=[11]) (by kernel_rfl) (by simp) ?_
 refine AllReadyH.cons rfl (fun K hK=>?_) AllReadyH.nil;go_simp
 refine hK.out _ _ ⟨yq d0,yq d1,yq e0,yq e1,yq e2,yq e3,yq e4,yq e5⟩ (fun _=>?_);refine wpAnyH_done (by kernel_rfl) ?_ _
 clear hHeld hHeld2 hK K d0 d1 e0 e1 e2 e3 e4 e5 hgl;have H1:=Lib.hid ((H.out.alloc (.cells #[.int .i64 nd, .int .i64 nk, .string nm, .int .i64 nx, .int .i64 no, .int .i64 na] 50)).drew1);have M1:Hid (Wm C w (w.alloc (.cells #[.int .i64 nd, .int .i64 nk, .string nm, .int .i64 nx, .int .i64 no, .int .i64 na] 50)).drew):=Lib.hid (((Wm.refl C w).alloc _).drew 1);have HX:Hid ((w.alloc (.cells #[.int .i64 nd, .int .i64 nk, .string nm, .int .i64 nx, .int .i64 no, .int .i64 na] 50)).drew.heap[w.heap.size]? =some (.cells #[.int .i64 nd, .int .i64 nk, .string nm, .int .i64 nx, .int .i64 no, .int .i64 na] 50 (0,0))):=Lib.hid (heap_alloc_new w _);have hxr:¬w.heap.size=C.r:=by have:=lt_of_block H.out.hr;omega
 have hxr2:¬C.r=w.heap.size:=fun e=>hxr e.symm;have HXG:Hid (w.heap.size<=w.heap.size):=Lib.hid (Nat.le_refl _);generalize hW:(w.alloc (.cells #[.int .i64 nd, .int .i64 nk, .string nm, .int .i64 nx, .int .i64 no, .int .i64 na] 50)).drew=w1 at H1 M1 HX⊢;clear hW;rw[<-(show w.heap.size=w.heap.size from rfl)] at HXG;generalize hx0:w.heap.size=x at HX hxr hxr2⊢;have HXX:=Lib.hid hx0;clear hx0 HXG;have x0:w1.cell? ⟨x,0,none⟩=some (.int .i64 nd):=by simp[World.cell?,HX.out]
 have x1:w1.cell? ⟨x,1,none⟩=some (.int .i64 nk):=by simp[World.cell?,HX.out]
 have x2:w1.cell? ⟨x,2,none⟩=some (.string nm):=by simp[World.cell?,HX.out]
 have x3:w1.cell? ⟨x,3,none⟩=some (.int .i64 nx):=by simp[World.cell?,HX.out]
 have x4:w1.cell? ⟨x,4,none⟩=some (.int .i64 no):=by simp[World.cell?,HX.out]
 have x5:w1.cell? ⟨x,5,none⟩=some (.int .i64 na):=by simp[World.cell?,HX.out]
 have b50:¬(9223372036854775807<T.size):=by omega
 have hxg:¬x=C.g:=by have:=lt_of_block H.out.hg;have:=HXX.out;omega
 have HXW:Hid (∀w2,Wm C w1 w2->w2.heap[x]? =some (.cells #[.int .i64 nd, .int .i64 nk, .string nm, .int .i64 nx, .int .i64 no, .int .i64 na] 50 (0,0))):=Lib.hid (fun w2 m=>(m.block x (lt_of_block HX.out) hxr hxg).trans HX.out);have HXL:Hid (w.heap.size<=x):=Lib.hid (Nat.le_of_eq HXX.out);go_wp2_with (first|(go_at_call 135;refine(uP C.r u C.hn C.hc C.hb 7 (by omega) (by omega) (by omega) C.hn2 _ H1.out.cells.2.2.2.2.1 H1.out.cells.2.2.2.2.2 (H1.out.free 5 (by omega)) H1.out.howAt C.hcap).mono ?_;rintro e w' ⟨⟨k,hk,rfl⟩,nq,rfl⟩)|(go_at_call 137;refine(level_any ⟨nd,nk,nm,nx,no,na⟩ _).mono ?_;rintro e w' ⟨rfl,kl⟩;have H3:=Lib.hid ((H1.out.used.drew nq).of_kin kl);have M3:=Lib.hid (((Wm.setR C w1 _ _).drew nq).trans (Wm.of_kin kl));clear kl)|(go_at_call 103;refine WPost.go (zH C at_ (u+1) T sLp pl _ H3.out (by omega) (by omega) (by decide)) ?_;rintro w2 ⟨f,hf,hw⟩ hm;have HF:=Lib.hid hf;have HW:=Lib.hid hw;have M4:=Lib.hid (M3.out.trans hm);clear hf hw hm)|(go_at_call 103;refine WPost.go (zH C at_ (u+1) T sLp pl _ (H1.out.used.drew nq) (by omega) (by omega) (by decide)) ?_;rintro w2 ⟨f,hf,hw⟩ hm;have HF:=Lib.hid hf;have HW:=Lib.hid hw;have M4:=Lib.hid (((Wm.setR C w1 _ _).drew nq).trans hm);clear hf hw hm))
 ·rw[yf 130 _ (by rfl)]
  exact HQ.out _ x _ rfl rfl (HXW.out _ M4.out) HXL.out (M1.out.trans M4.out) (.inl ⟨f,HF.out,by first|rfl|(show Value.bool _=Value.bool _;congr 1;simp_all),HW.out⟩)
 ·rw[yf 130 _ (by rfl)]
  exact HQ.out _ x _ rfl rfl (HXW.out _ M4.out) HXL.out (M1.out.trans M4.out) (.inl ⟨f,HF.out,by first|rfl|(show Value.bool _=Value.bool _;congr 1;simp_all),HW.out⟩)
 ·rw[yf 130 _ (by rfl)]
  exact HQ.out _ x _ rfl rfl (HXW.out _ M3.out) HXL.out (M1.out.trans M3.out) (.inr ⟨by first|rfl|(show Value.bool _=Value.bool _;congr 1;simp_all),by omega,H3.out⟩)
def plW(pl:List Int)(at_:Nat)(l:List Nd):List Int:=pl.take at_++l.map Nd.at_++pl.drop (at_+l.length)
theorem plW_len{pl:List Int}{at_:Nat}{l:List Nd}(h:at_+l.length<=pl.length):(plW pl at_ l).length=pl.length:=by
 unfold plW;simp;omega
theorem plW_get{pl:List Int}{at_:Nat}{l:List Nd}(h:at_+l.length<=pl.length)(j:Nat):(plW pl at_ l)[j]? =if at_<=j/\j<at_+l.length then (l[j-at_]?).map Nd.at_ else pl[j]? :=by
 unfold plW;by_cases h1:j<at_
 ·rw[if_neg (by omega),List.getElem?_append_left (by simp;omega),List.getElem?_append_left (by simp;omega),List.getElem?_take,if_pos h1]
 ·by_cases h2:j<at_+l.length
  ·rw[if_pos (by omega),List.getElem?_append_left (by simp;omega),List.getElem?_append_right (by simp;omega),List.getElem?_map]
   simp[Nat.min_eq_left (show at_<=pl.length by omega)]
  ·rw[if_neg (by omega),List.getElem?_append_right (by simp;omega),List.getElem?_drop]
   congr 1;simp;omega
theorem xZ{pl:List Int}{at_:Nat}{n:Nd}(h:at_<pl.length):pl.set at_ n.at_=plW pl at_ [n]:=by
 apply List.ext_getElem?;intro j;rw[plW_get (by simp;omega),List.getElem?_set]
 by_cases e:at_=j
 ·subst e;simp[h]
 ·rw[if_neg e,if_neg (by simp;omega)]
theorem qw{pl:List Int}{at_:Nat}{a b:List Nd}(h:at_+(a++b).length<=pl.length):plW (plW pl at_ a) (at_+a.length) b=plW pl at_ (a++b):=by
 simp only[List.length_append] at h;apply List.ext_getElem?;intro j;rw[plW_get (by rw[plW_len (by omega)];omega),plW_get (by omega),plW_get (by simp;omega)]
 simp only[List.length_append];by_cases h1:at_+a.length<=j/\j<at_+a.length+b.length
 ·rw[if_pos h1,if_pos (by omega),List.getElem?_append_right (by omega)]
  congr 2;omega
 ·rw[if_neg h1];by_cases h2:at_<=j/\j<at_+a.length
  ·rw[if_pos h2,if_pos (by omega),List.getElem?_append_left (by omega)]
  ·rw[if_neg h2,if_neg (by omega)]
theorem zbW{pl:List Int}{at_:Nat}{n:Nd}{a:List Nd}(h:at_+1+a.length<=pl.length):(plW pl (at_+1) a).set at_ n.at_=plW pl at_ (n::a):=by
 apply List.ext_getElem?;intro j;rw[List.getElem?_set,plW_get (by omega),plW_get (by simp;omega),plW_len (by omega)]
 by_cases e:at_=j
 ·subst e;rw[if_pos rfl,if_pos (by omega),if_pos (by simp)]
  simp
 ·rw[if_neg e];by_cases h1:at_+1<=j/\j<at_+1+a.length
  ·rw[if_pos h1,if_pos (by simp;omega)]
   rw[show j-at_=(j-(at_+1))+1 from by omega]
   rfl
  ·rw[if_neg h1,if_neg (by simp;omega)]
def zR(l:List Pc):ByteArray:=⟨(bytesOf l).toArray⟩
theorem bytesB_size(l:List Pc):(zR l).size=szOf l:=j6 l
theorem zE(T:ByteArray)(f:List UInt8)(p:ByteArray):T++⟨f.toArray⟩++p=T++zR [(f,p)]:=by
 apply ByteArray.ext;apply Array.ext';simp[zR,bytesOf]
theorem zN(T:ByteArray)(l m:List Pc):T++zR l++zR m=T++zR (l++m):=by
 apply ByteArray.ext;simp[zR,qd,Array.append_assoc]
theorem bytes_size(T:ByteArray)(l:List Pc):(T++zR l).size=T.size+szOf l:=by rw[ByteArray.size_append,bytesB_size]
def EP(C:WCx)(at_ u:Nat)(T:ByteArray)(pl:List Int)(k:Nat)(t:Tr)(d:Int)(s:Nat)(w':World):Prop:=
 ∃l t' u',W (.e k) T.size [t] l [t']/\szOf l+14*s<=208*(flatT t d).length/\u'+3*s<=u+8*(flatT t d).length/\Wr C w' (at_+(flatT t d).length) u' (T++zR l) (plW pl at_ (flatT t' d))
theorem u0(C:WCx)(at_ u:Nat)(T:ByteArray)(pl:List Int)(w:World)(h:Wr C w at_ u T pl)(F:Nat->Value)(h0:F 0= .pointer (some ⟨C.r,0,none⟩))(b:Bool)(h5:F 5= .bool b)(hu:u<=900000)(hT:T.size<=1000000)(R:Ending->World->Prop)
 (h1:b=true->∀f∈zd,∀w2,Wr C w2 at_ (u+1) (T++⟨f.toArray⟩++sRp) pl->Wm C w w2->R (.returned (.tuple #[])) w2) (h2:b=false->R (.returned (.tuple #[])) w):xq2.wp Tryz.prog (bodyPost Tryz.prog Tryz.f105 R) (frN 130 F) w:=by
 have H:=Lib.hid h;have H1:=Lib.hid h1;have H2:=Lib.hid h2;clear h h1 h2;rw[fr130];simp only[h0,h5];cases b with
 |true=>
  conv=>enter [2];simp only[xq2,xq1,xq0,seqL,seqR,Tryz.f105,Option.getD_some]
  go_wp2_with (go_at_call 103;refine WPost.go (zH C at_ u T sRp pl _ H.out (by omega) hT (by decide)) ?_;rintro w2 ⟨f,hf,hw⟩ hm;have HF:=Lib.hid hf;have HW:=Lib.hid hw;have HM:=Lib.hid hm;clear hf hw hm);exact⟨rfl, .tuple #[],by simp[results,Tryz.f105],H1.out (by trivial) f HF.out _ HW.out HM.out⟩
 |false=>
  conv=>enter [2];simp only[xq2,xq1,xq0,seqL,seqR,Tryz.f105,Option.getD_some]
  go_wp2_with fail;exact⟨rfl, .tuple #[],by simp[results,Tryz.f105],H2.out (by trivial)⟩
def NdAt(w:World)(x:Nat)(n:Nd):Prop:=w.heap[x]? =some (.cells n.cells.toArray 50 (0,0))
theorem NdAt.cells{w:World}{x:Nat}{n:Nd}(h:NdAt w x n):w.cell? ⟨x,0,none⟩=some (.int .i64 n.depth)/\w.cell? ⟨x,1,none⟩=some (.int .i64 n.kind)/\w.cell? ⟨x,2,none⟩=some (.string n.name)/\w.cell? ⟨x,3,none⟩=some (.int .i64 n.num)/\w.cell? ⟨x,4,none⟩=some (.int .i64 n.op)/\w.cell? ⟨x,5,none⟩=some (.int .i64 n.at_):=by
 unfold NdAt at h;refine⟨?_,?_,?_,?_,?_,?_⟩<;>simp[World.cell?,h,Nd.cells]
def MidQ(C:WCx)(F:Nat->Value)(w:World)(P:World->Prop)(Q:Exit->Act->World->Prop):Prop:=∀(F':Nat->Value) w',F' 0= .pointer (some ⟨C.r,0,none⟩)->F' 5=F 5->P w'->Wm C w w'->Q .normal (frN 130 F') w'
theorem zhD(C:WCx)(ht:TabW C.w0)(at_ u:Nat)(T:ByteArray)(pl:List Int)(w:World)(h:Wr C w at_ u T pl)(x:Nat)(d a X:Int)(hx:NdAt w x ⟨d,10,za,X,0,a⟩)(h0:0<=X)(h1:X<=9223372036854775807)(hat:at_<C.ns.length)(hu:u<=900000)(hT:T.size<=900000)(k:Nat)(F:Nat->Value)(f0:F 0= .pointer (some ⟨C.r,0,none⟩))(f4:F 4= .pointer (some ⟨x,0,none⟩))(Q:Exit->Act->World->Prop)
 (HQ:Hid (MidQ C F w (EP C at_ u T pl k (.mk ⟨d,10,za,X,0,a⟩ []) d 1) Q)):(seqL xq1).wp Tryz.prog Q (frN 130 F) w:=by
 have H:=Lib.hid h;have HT:=Lib.hid (ht.kin h.kin);obtain⟨_,x1,_,x3,_,_⟩:=hx.cells
 dsimp only at x1 x3
 have hds:(digs X).size<=21:=by
  have:=Lib.itoa_length_le X (by omega) h1
  show(Lib.itoa X).toArray.size<=21
  simpa using this
 clear h hx ht;rw[fr130];simp only[f0,f4];conv=>enter [2];simp only[xq1,xq0,seqL,seqR,Tryz.f105,Option.getD_some]
 go_wp2_with (first|(go_at_call 104;refine(uY X h0 h1 _ HT.out).mono ?_;rintro e w2 ⟨rfl,k2⟩;have H2:=Lib.hid (H.out.of_kin k2);have M2:Hid (Wm C w w2):=Lib.hid (Wm.of_kin k2);clear k2)|(go_at_call 102;refine WPost.go (zW C at_ u T (digs X) pl _ H2.out hat (by omega) (by omega) (by omega)) ?_;rintro w3 ⟨f,hf,hw⟩ hm;have HF:=Lib.hid hf;have HW:=Lib.hid hw;have HM:=Lib.hid (M2.out.trans hm);clear hf hw hm));rw[yf 130 _ (by rfl)]
 refine HQ.out _ _ rfl rfl ⟨[(f,digs X)],_,u+1, .num HF.out (zdR h0 h1),?_,?_,?_⟩ HM.out
 ·have:=zg f HF.out
  simp[zq,flatT,flatTs,szOf,bytesOf];have e:(digs X).data.size=(digs X).size:=rfl;omega
 ·simp[flatT,flatTs]
 ·have e:=xZ (n:=(⟨d,10,za,X,0,((T.size+f.length:Nat):Int)⟩:Nd)) (pl:=pl) (at_:=at_) (by have:=H.out.hl;omega)
  rw[<-zE];have hw:=HW.out;rw[show((T.size:Int)+(f.length:Int))=((T.size+f.length:Nat):Int) from rfl,e] at hw;exact hw
theorem Wr.cast{C:WCx}{w:World}{a a' u:Nat}{T T':ByteArray}{pl pl':List Int}(h:Wr C w a u T pl)(e1:a=a')(e2:T=T')(e3:pl=pl'):Wr C w a' u T' pl':=by subst e1 e2 e3;exact h
theorem qp{pl:List Int}{at_:Nat}{n:Nd}{b:List Nd}(h:at_+1+b.length<=pl.length):plW (pl.set at_ n.at_) (at_+1) b=plW pl at_ (n::b):=by
 rw[xZ (by omega)]
 exact qw (a:=[n]) (b:=b) (by simp;omega)
theorem qr{k i:Nat}{t t':Tr}{l:List Pc}(h:W (.e k) i [t] l [t'])(d:Int):(flatT t' d).length=(flatT t d).length:=by
 have:=congrArg List.length (kg h d)
 simpa [noAt,flatTs] using this
theorem sz3(T:ByteArray)(f:List UInt8)(p:ByteArray):(T++⟨f.toArray⟩++p).size=T.size+f.length+p.size:=by
 rw[ByteArray.size_append,ByteArray.size_append];have:(⟨f.toArray⟩:ByteArray).size=f.length:=by show f.toArray.size=_;simp
 omega
theorem xV{s:ByteArray}(h:nameableB s=true):s.size<=16:=by
 unfold nameableB at h;simp only[Bool.and_eq_true,decide_eq_true_eq] at h;exact h.1.2
theorem zfU(C:WCx)(at_ u:Nat)(T:ByteArray)(pl:List Int)(w:World)(h:Wr C w at_ u T pl)(x:Nat)(d a:Int)(s:ByteArray)(hx:NdAt w x ⟨d,12,s,0,0,a⟩)(hs:nameableB s=true)(hat:at_<C.ns.length)(hu:u<=900000)(hT:T.size<=900000)(k:Nat)(F:Nat->Value)(f0:F 0= .pointer (some ⟨C.r,0,none⟩))(f4:F 4= .pointer (some ⟨x,0,none⟩))(Q:Exit->Act->World->Prop)
 (HQ:Hid (MidQ C F w (EP C at_ u T pl k (.mk ⟨d,12,s,0,0,a⟩ []) d 1) Q)):(seqL xq1).wp Tryz.prog Q (frN 130 F) w:=by
 have H:=Lib.hid h;have HS:=Lib.hid hs;obtain⟨_,x1,x2,_,_,_⟩:=hx.cells
 dsimp only at x1 x2
 have hds:=xV hs;clear h hx hs;rw[fr130];simp only[f0,f4];conv=>enter [2];simp only[xq1,xq0,seqL,seqR,Tryz.f105,Option.getD_some]
 go_wp2_with (go_at_call 102;refine WPost.go (zW C at_ u T s pl _ H.out hat (by omega) (by omega) (by omega)) ?_;rintro w3 ⟨f,hf,hw⟩ hm;have HF:=Lib.hid hf;have HW:=Lib.hid hw;have HM:=Lib.hid hm;clear hf hw hm);rw[yf 130 _ (by rfl)]
 refine HQ.out _ _ rfl rfl ⟨[(f,s)],_,u+1, .read HF.out HS.out,?_,?_,?_⟩ HM.out
 ·have:=zg f HF.out
  simp[zq,flatT,flatTs,szOf,bytesOf];have e:s.data.size=s.size:=rfl;omega
 ·simp[flatT,flatTs]
 ·have e:=xZ (n:=(⟨d,12,s,0,0,((T.size+f.length:Nat):Int)⟩:Nd)) (pl:=pl) (at_:=at_) (by have:=H.out.hl;omega)
  rw[<-zE];have hw:=HW.out;rw[show((T.size:Int)+(f.length:Int))=((T.size+f.length:Nat):Int) from rfl,e] at hw;exact hw
theorem zfW(C:WCx)(at_ u:Nat)(T:ByteArray)(pl:List Int)(w:World)(h:Wr C w at_ u T pl)(x:Nat)(d a X:Int)(hx:NdAt w x ⟨d,11,za,X,0,a⟩)(hX:X=0\/X=1)(hat:at_<C.ns.length)(hu:u<=900000)(hT:T.size<=900000)(k:Nat)(F:Nat->Value)(f0:F 0= .pointer (some ⟨C.r,0,none⟩))(f4:F 4= .pointer (some ⟨x,0,none⟩))(Q:Exit->Act->World->Prop)
 (HQ:Hid (MidQ C F w (EP C at_ u T pl k (.mk ⟨d,11,za,X,0,a⟩ []) d 1) Q)):(seqL xq1).wp Tryz.prog Q (frN 130 F) w:=by
 have H:=Lib.hid h;obtain⟨_,x1,_,x3,_,_⟩:=hx.cells
 dsimp only at x1 x3
 clear h hx;have kz1:kTru.size=4:=rfl;have kz2:kFls.size=5:=rfl;rw[fr130];simp only[f0,f4];rcases hX with rfl|rfl
 ·conv=>enter [2];simp only[xq1,xq0,seqL,seqR,Tryz.f105,Option.getD_some]
  go_wp2_with (go_at_call 102;refine WPost.go (zW C at_ u T kFls pl _ H.out hat (by omega) (by omega) (by omega)) ?_;rintro w3 ⟨f,hf,hw⟩ hm;have HF:=Lib.hid hf;have HW:=Lib.hid hw;have HM:=Lib.hid hm;clear hf hw hm);rw[yf 130 _ (by rfl)]
  refine HQ.out _ _ rfl rfl ⟨[(f,kFls)],_,u+1, .fls HF.out,?_,?_,?_⟩ HM.out
  ·have:=zg f HF.out
   have e:kFls.data.size=kFls.size:=rfl;simp[zq,flatT,flatTs,szOf,bytesOf];omega
  ·simp[flatT,flatTs]
  ·have e:=xZ (n:=(⟨d,11,za,0,0,((T.size+f.length:Nat):Int)⟩:Nd)) (pl:=pl) (at_:=at_) (by have:=H.out.hl;omega)
   rw[<-zE];have hw:=HW.out;rw[show((T.size:Int)+(f.length:Int))=((T.size+f.length:Nat):Int) from rfl,e] at hw;exact hw
 ·conv=>enter [2];simp only[xq1,xq0,seqL,seqR,Tryz.f105,Option.getD_some]
  go_wp2_with (go_at_call 102;refine WPost.go (zW C at_ u T kTru pl _ H.out hat (by omega) (by omega) (by omega)) ?_;rintro w3 ⟨f,hf,hw⟩ hm;have HF:=Lib.hid hf;have HW:=Lib.hid hw;have HM:=Lib.hid hm;clear hf hw hm);rw[yf 130 _ (by rfl)]
  refine HQ.out _ _ rfl rfl ⟨[(f,kTru)],_,u+1, .tru HF.out,?_,?_,?_⟩ HM.out
  ·have:=zg f HF.out
   have e:kTru.data.size=kTru.size:=rfl;simp[zq,flatT,flatTs,szOf,bytesOf];omega
  ·simp[flatT,flatTs]
  ·have e:=xZ (n:=(⟨d,11,za,1,0,((T.size+f.length:Nat):Int)⟩:Nd)) (pl:=pl) (at_:=at_) (by have:=H.out.hl;omega)
   rw[<-zE];have hw:=HW.out;rw[show((T.size:Int)+(f.length:Int))=((T.size+f.length:Nat):Int) from rfl,e] at hw;exact hw
def yS(C:WCx)(t:Tr):Prop:=∀(k:Nat),k<=5->∀(d:Int) (rest:List Nd) (at_ u:Nat) (T:ByteArray) (pl:List Int) (w:World),Wr C w at_ u T pl->C.ns.drop at_=flatT t d++rest->u+8*(flatT t d).length<=800000->T.size+208*(flatT t d).length<=800000->
 Calls Tryz.prog 105 #[.pointer (some ⟨C.r,0,none⟩), .int .i64 ((k+1:Nat):Int)] w (WPost C w (EP C at_ u T pl k t d 0))
theorem zt{ns:List Nd}{at_:Nat}{n:Nd}{l:List Nd}(h:ns.drop at_=n::l):ns[at_]? =some n/\at_<ns.length/\ns.drop (at_+1)=l:=by
 have h1:ns[at_]? =some n:=by
  have:=congrArg (·[0]?) h
  simpa using this
 refine⟨h1,(List.getElem?_eq_some_iff.1 h1).1,?_⟩;rw[show at_+1=at_+1 from rfl,<-List.drop_drop,h];rfl
theorem xb{ns:List Nd}{at_:Nat}{a l:List Nd}(h:ns.drop at_=a++l):ns.drop (at_+a.length)=l:=by
 rw[<-List.drop_drop,h];simp
theorem zU{ns:List Nd}{at_:Nat}{a l:List Nd}(h:ns.drop at_=a++l)(ha:0<a.length):at_+a.length<=ns.length:=by
 have:=congrArg List.length h
 simp at this;omega
theorem zfV(C:WCx)(at_ u:Nat)(T:ByteArray)(pl:List Int)(w:World)(h:Wr C w at_ u T pl)(x:Nat)(d a:Int)(s:ByteArray)(e:Tr)(hx:NdAt w x ⟨d,13,s,0,0,a⟩)(hs:nameableB s=true)(IH:yS C e)(rest:List Nd)(hdr:C.ns.drop at_=flatT (.mk ⟨d,13,s,0,0,a⟩ [e]) d++rest)(hu:u+8*(flatT e (d+1)).length<=799996)(hT:T.size+208*(flatT e (d+1)).length<=799900)(k:Nat)(F:Nat->Value)(f0:F 0= .pointer (some ⟨C.r,0,none⟩))(f4:F 4= .pointer (some ⟨x,0,none⟩))(Q:Exit->Act->World->Prop)
 (HQ:Hid (MidQ C F w (EP C at_ u T pl k (.mk ⟨d,13,s,0,0,a⟩ [e]) d 1) Q)):(seqL xq1).wp Tryz.prog Q (frN 130 F) w:=by
 have H:=Lib.hid h;have HS:=Lib.hid hs;have HI:=Lib.hid IH;obtain⟨_,x1,x2,_,_,_⟩:=hx.cells
 dsimp only at x1 x2
 have hds:=xV hs;have hroom:=zU hdr (by simp[flatT])
 have hfl:flatT (.mk ⟨d,13,s,0,0,a⟩ [e]) d=⟨d,13,s,0,0,a⟩::flatT e (d+1):=by simp[flatT,flatTs]
 rw[hfl,List.cons_append] at hdr;rw[hfl] at hroom;obtain⟨_,hat,hdr1⟩:=zt hdr
 have HD:=Lib.hid hdr1;generalize hln:(flatT e (d+1)).length=ln at hu hT;have HLN:=Lib.hid hln;clear h hx hs IH hdr hdr1 hln;rw[fr130];simp only[f0,f4];conv=>enter [2];simp only[xq1,xq0,seqL,seqR,Tryz.f105,Option.getD_some]
 go_wp2_with (first|(go_at_call 102;refine WPost.go (zW C at_ u T s pl _ H.out hat (by omega) (by omega) (by omega)) ?_;rintro w1 ⟨f,hf,hw⟩ hm;have HF:=Lib.hid hf;have H1:=Lib.hid hw;have M1:=Lib.hid hm;have b1:=zg f hf;clear hf hw hm)|(go_at_call 103;with_reducible refine WPost.go (zH C (at_+1) (u+1) (T++⟨f.toArray⟩++s) ⟨#[91]⟩ _ _ H1.out (by omega) (by rw[sz3];omega) (by decide)) ?_;rintro w2 ⟨g,hf,hw⟩ hm;have HG:=Lib.hid hf;have H2:=Lib.hid hw;have M2:=Lib.hid (M1.out.trans hm);have b2:=zg g hf;clear hf hw hm)|(go_at_call 105;refine WPost.go (HI.out 0 (by omega) (d+1) rest (at_+1) (u+1+1) _ _ _ H2.out HD.out (by have:=HLN.out;omega) (by have:=HLN.out;rw[sz3,sz3];have e:(⟨#[91]⟩:ByteArray).size=1:=rfl;omega)) ?_;rintro w3 ⟨l,e',u3,hW,hz,hu3,hw⟩ hm;have HW:=Lib.hid hW;have HZ:=Lib.hid hz;have HU:=Lib.hid hu3;have H3:=Lib.hid hw;have M3:=Lib.hid (M2.out.trans hm);clear hW hz hu3 hw hm)|(go_at_call 103;with_reducible refine WPost.go (zH C _ u3 _ ⟨#[93]⟩ _ _ H3.out (by have:=HU.out;have:=HLN.out;omega) (by rw[bytes_size,sz3,sz3];have:=HZ.out;have:=HLN.out;have e:(⟨#[91]⟩:ByteArray).size=1:=rfl;omega) (by decide)) ?_;rintro w4 ⟨m,hf,hw⟩ hm;have HH:=Lib.hid hf;have H4:=Lib.hid hw;have M4:=Lib.hid (M3.out.trans hm);have b4:=zg m hf;clear hf hw hm));rw[yf 130 _ (by rfl)]
 have hl2:=qr HW.out (d+1);have hz:=HZ.out;have hu3:=HU.out;have hln:=HLN.out;have hpl:=H.out.hl;have e91:sLb.size=1:=rfl;have e93:sRb.size=1:=rfl;simp only[List.length_cons] at hroom;refine HQ.out _ _ rfl rfl ⟨(f,s)::(g,sLb)::(l++[(m,sRb)]),leafT 13 s 0 0 ((T.size+f.length:Nat):Int) [e'],u3+1, .load HF.out HG.out HH.out HS.out (by have:=HW.out;rw[sz3,sz3] at this;exact this),?_,?_,?_⟩ M4.out
 ·rw[hfl,zq,zq,szOf_append,zq];simp only[List.length_cons,show szOf []=0 from rfl];omega
 ·rw[hfl];simp only[List.length_cons];omega
 ·refine H4.out.cast ?_ ?_ ?_
  ·rw[hfl];simp only[List.length_cons];omega
  ·simp only[zE,zN,List.cons_append,List.nil_append,List.append_assoc];rfl
  ·rw[show((T.size:Int)+(f.length:Int))=(⟨d,13,s,0,0,((T.size+f.length:Nat):Int)⟩:Nd).at_ from rfl,qp (by omega)]
   simp[flatT,flatTs,leafT]
end Go.Proofs.YtonmcakdofbjiaaGreatDoor
