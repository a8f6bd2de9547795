/- A part. -/
import Derived.Test.YtonmcakdofbjiaaGreatDoorM19
import Derived.Test.YtonmcakdofbjiaaGreatDoorM18
import Derived.BigRegion
import Derived.Deep.RegionHeld3
import Derived.Deep.RegionLaw
set_option linter.all false
set_option maxRecDepth 100000
set_option maxHeartbeats 8000000
namespace Go.Proofs.YtonmcakdofbjiaaGreatDoor
open Go.RowKit
def StandPost(w:World)(B r gb:Nat)(o:List Hold)(heads:Bool)(n:Nd)(e:Ending)(w':World):Prop:=
 Ap r gb w w'/\match xg o heads n with
 |none=>e= .returned (.bool false)
 |some (o',h')=>e= .returned (.bool true)/\ShM w' B r gb o' h'
noncomputable def st0:Code:=(Tryz.f51.body.getD .skip)
noncomputable def zG:Code:=seqR (seqR (seqR st0))
theorem zaj{o1:List Hold}{m:Nat}{d:Int}(hm:m<=o1.length)(h1:∀(j:Nat) (x:Hold),m<=j->o1[j]? =some x->d<=x.depth)(h2:m=0\/∃x,o1[m-1]? =some x/\x.depth<d):popF d o1=o1.take m:=by
 unfold popF;rw[wS (k:=m) (h2.imp id fun⟨x,a,b⟩=>⟨x,a,by simpa using b⟩) fun j y hj hy=>by have:=h1 j y hj hy;simp;omega]
theorem zb0:(Tryz.prog.info? 157).map (fun i=>(i.zero,i.size,i.bytes))=some (some (.agg #[.int .i64 0, .int .i64 0, .slice none 0 0, .int .i64 0]),4,48):=by kernel_rfl
theorem zdu(x:Int)(w:World):Calls Tryz.prog 99 #[.int .i64 x] w fun e w'=>∃b n cap,e= .returned (.slice b n cap)/\Kin w w'/\∀r gb,r<w.heap.size->gb<w.heap.size->zT w' r gb (.slice b n cap) (zC x):=by
 refine(zcd x w).mono ?_;rintro e w' ⟨rfl,rfl⟩;unfold wantsV wantsW;by_cases hl:zC x=[]
 ·rw[if_pos hl,if_pos hl];exact⟨_,_,_,rfl,Kin.refl _,fun r gb _ _=>⟨none,0,by rw[hl];rfl,by rw[hl];exact Nat.le_refl _,fun h=>absurd hl h⟩⟩
 ·rw[if_neg hl,if_neg hl];refine⟨_,_,_,rfl,(Kin.refl w).alloc _,fun r gb h1 h2=>⟨_,_,rfl,Nat.le_refl _,fun _=>⟨w.heap.size,0,rfl,by omega,by omega,fun i y hy=>?_⟩⟩⟩
  rw[Nat.zero_add];have hb:=heap_alloc_new w (.cells ((zC x).map (Value.int .i64)).toArray 3);unfold World.cell?
  simp only[hb];simp[hy]
theorem zgd(a b c:Int){v:Value}(hv:v.oneCell'=true):∀u∈[Value.int .i64 a, .int .i64 b,v, .int .i64 c],u.oneCell'=true:=by
 intro u hu;simp only[List.mem_cons,List.not_mem_nil,or_false] at hu;rcases hu with rfl|rfl|rfl|rfl<;>first|rfl|exact hv
theorem four_new(w:World)(a b c d:Value)(T:TypeId):∀(j:Nat) (u:Value),[a,b,c,d][j]? =some u->(w.alloc (.cells #[a,b,c,d] T)).cell? ((⟨w.heap.size,0,none⟩:Addr).add j)=some u:=by
 intro j u hj
 match j,hj with
 |0,hj=>simp at hj;subst hj;simp[go_sem,Addr.add]
 |1,hj=>simp at hj;subst hj;simp[go_sem,Addr.add]
 |2,hj=>simp at hj;subst hj;simp[go_sem,Addr.add]
 |3,hj=>simp at hj;subst hj;simp[go_sem,Addr.add]
 |j+4,hj=>simp at hj
theorem za8{w:World}{B r gb m:Nat}{o:List Hold}{heads:Bool}(hm:m<26)(h:ShM w B r gb o heads)(w':World)(k:Kin w w'):∀j,j<4->(w'.cell? ⟨gb,0+m*4+j,none⟩).isSome=true/\w'.frozen? ⟨gb,0+m*4+j,none⟩=false:=by
 intro j hj;obtain⟨F,h1,_⟩:=h.row
 have h2:=h1.of_block (k.block gb h1.lt);exact⟨by rw[h2.cell (by omega)];rfl,h2.frozen _⟩
theorem hstep{P:Program}{md:Region.Mode}{ops:Array Oper}{Q:Exit->Act->World->Prop}{S:World->Prop}{fuel:Nat}{listed:Array Bool}{a:Act}{w:World}{i:Nat}{o:Oper}(hr:Region.ready md ops listed=[i])(ho:ops[i]? =some o)(hgd:o.guard=none)
 (h:o.wp P a w (fun a' w'=>S w'/\wpAnyH P md ops Q S fuel (listed.setIfInBounds i true) a' w') Q):wpAnyH P md ops Q S (fuel+1) listed a w:=by
 refine wpAnyH_ready hr (by simp) fun j hj=>?_
 obtain rfl:j=i:=by simpa using hj
 unfold wpOp;rw[ho];have hw:Region.wanted o (yielded ops a.tmps)=true:=by simp[Region.wanted,hgd]
 simp only[hw,if_true];exact .inl h
theorem zax{P:Program}{md:Region.Mode}{ops:Array Oper}{Q:Exit->Act->World->Prop}{S:World->Prop}{fuel:Nat}{listed:Array Bool}{a:Act}{w:World}{i j:Nat}{o p:Oper}(hr:Region.ready md ops listed=[i,j])(ho:ops[i]? =some o)(hgd:o.guard=none)(hp:ops[j]? =some p)(hgp:p.guard=none)
 (h:o.wp P a w (fun a' w'=>S w'/\wpAnyH P md ops Q S fuel (listed.setIfInBounds i true) a' w') Q) (k:p.wp P a w (fun a' w'=>S w'/\wpAnyH P md ops Q S fuel (listed.setIfInBounds j true) a' w') Q):wpAnyH P md ops Q S (fuel+1) listed a w:=by
 refine wpAnyH_ready hr (by simp) fun x hx=>?_
 have hx:x=i\/x=j:=by simpa using hx
 unfold wpOp;rcases hx with rfl|rfl
 ·rw[ho];have hw:Region.wanted o (yielded ops a.tmps)=true:=by simp[Region.wanted,hgd]
  simp only[hw,if_true];exact .inl h
 ·rw[hp];have hw:Region.wanted p (yielded ops a.tmps)=true:=by simp[Region.wanted,hgp]
  simp only[hw,if_true];exact .inl k
structure Ev (D:List Deferred) (n:Nat) (a:Act) (l:List (Nat×Value)):Prop where
 size:a.tmps.size=n
 defers:a.defers=D
 at_:∀p∈l,a.eval (.tmp p.1)=p.2
theorem Ev.put{D:List Deferred}{n:Nat}{a:Act}{l:List (Nat×Value)}(h:Ev D n a l)(k:Nat)(v:Value)(hk:k<n)(hl:(l.map (·.1)).contains k=false):Ev D n (a.put (some k) v) ((k,v)::l):=by
 refine⟨by show(a.tmps.setIfInBounds k v).size=n;simp[h.size],h.defers,fun p hp=>?_⟩
 rcases List.mem_cons.1 hp with rfl|hp
 ·show(a.tmps.setIfInBounds k v).getD k undef=v
  simp[Array.getD_eq_getD_getElem?,Array.getElem?_setIfInBounds,h.size,hk]
 ·have hne:k≠p.1:=by
   intro e;have hc:(l.map (·.1)).contains p.1=true:=by
    rw[List.contains_iff_mem];exact List.mem_map_of_mem hp
   rw[e,hc] at hl;cases hl
  show(a.tmps.setIfInBounds k v).getD p.1 undef=p.2
  rw[<-h.at_ p hp];show _=a.tmps.getD p.1 undef;simp only[Array.getD_eq_getD_getElem?];rw[Array.getElem?_setIfInBounds_ne hne]
theorem Ev.skip{D:List Deferred}{n:Nat}{a:Act}{l:List (Nat×Value)}(h:Ev D n a l)(v:Value):Ev D n (a.put none v) l:=h
theorem Ev.get{D:List Deferred}{n:Nat}{a:Act}{l:List (Nat×Value)}(h:Ev D n a l)(k:Nat)(v:Value)(hm:(k,v)∈l):a.eval (.tmp k)=v:=h.at_ (k,v) hm
theorem ShM.push{W:World}{B r gb m:Nat}{o2:List Hold}{h':Bool}(h:ShM W B r gb o2 h')(hl:o2.length=m)(hm:m<26){wv:Value}{l:List Int}(kind depth blocks:Int)(hw:zT W r gb wv l):
 ShM ((((((W.setCell ⟨gb,m*4,none⟩ (.int .i64 kind)).setCell ⟨gb,m*4+1,none⟩ (.int .i64 depth)).setCell ⟨gb,m*4+2,none⟩ wv).setCell ⟨gb,m*4+3,none⟩ (.int .i64 blocks))).setCell ⟨r,0,none⟩ (.slice (some ⟨gb,0,none⟩) (m+1:Nat) 26)) B r gb (o2++[⟨kind,depth,l,blocks⟩]) h':=by
 obtain⟨F,h1,h2⟩:=h.row
 have hk:∀k,k≠r->k≠gb->((((((W.setCell ⟨gb,m*4,none⟩ (.int .i64 kind)).setCell ⟨gb,m*4+1,none⟩ (.int .i64 depth)).setCell ⟨gb,m*4+2,none⟩ wv).setCell ⟨gb,m*4+3,none⟩ (.int .i64 blocks))).setCell ⟨r,0,none⟩ (.slice (some ⟨gb,0,none⟩) (m+1:Nat) 26)).heap[k]? =W.heap[k]? :=fun k e1 e2=>by
  rw[Go.Deep.blk_setCell_other _ _ _ _ e1,Go.Deep.blk_setCell_other _ _ _ _ e2,Go.Deep.blk_setCell_other _ _ _ _ e2,Go.Deep.blk_setCell_other _ _ _ _ e2,Go.Deep.blk_setCell_other _ _ _ _ e2]
 have hs:=((((h.s.setOther (a:=⟨gb,m*4,none⟩) h.ne (.int .i64 kind)).setOther (a:=⟨gb,m*4+1,none⟩) h.ne (.int .i64 depth)).setOther (a:=⟨gb,m*4+2,none⟩) h.ne wv).setOther (a:=⟨gb,m*4+3,none⟩) h.ne (.int .i64 blocks)).set 0 (.slice (some ⟨gb,0,none⟩) (m+1:Nat) 26);have hr:=((((h1.set (m*4) (.int .i64 kind)).set (m*4+1) (.int .i64 depth)).set (m*4+2) wv).set (m*4+3) (.int .i64 blocks)).setOther (a:=⟨r,0,none⟩) (fun e=>h.ne e.symm) (.slice (some ⟨gb,0,none⟩) (m+1:Nat) 26);refine⟨hs.congr fun i hi=>?_,⟨_,hr,fun j x hx=>?_⟩,by simp;omega,h.ne,h.hr,h.hg⟩
 ·match i,hi with
  |0,_=>simp[shF,hl]
  |1,_=>rfl
 ·by_cases hj:j<o2.length
  ·rw[List.getElem?_append_left hj] at hx;obtain⟨a,b,c,d⟩:=h2 j x hx
   simp only[show ¬j*4=m*4 from by omega,show ¬j*4=m*4+1 from by omega,show ¬j*4=m*4+2 from by omega,show ¬j*4=m*4+3 from by omega,
    show ¬j*4+1=m*4 from by omega,show ¬j*4+1=m*4+1 from by omega,show ¬j*4+1=m*4+2 from by omega,show ¬j*4+1=m*4+3 from by omega,
    show ¬j*4+2=m*4 from by omega,show ¬j*4+2=m*4+1 from by omega,show ¬j*4+2=m*4+2 from by omega,show ¬j*4+2=m*4+3 from by omega,
    show ¬j*4+3=m*4 from by omega,show ¬j*4+3=m*4+1 from by omega,show ¬j*4+3=m*4+2 from by omega,show ¬j*4+3=m*4+3 from by omega,if_false]
   exact⟨a,b,c,d.kept fun k _ e1 e2=>hk k e1 e2⟩
  ·rw[List.getElem?_append_right (by omega)] at hx
   have hj2:j=m:=by
    cases hjm:j-o2.length with
    |zero=>omega
    |succ q=>rw[hjm] at hx;simp at hx
   subst hj2;rw[show j-o2.length=0 from by omega] at hx
   simp at hx;subst hx;simp only[show ¬j*4=j*4+1 from by omega,show ¬j*4=j*4+2 from by omega,show ¬j*4=j*4+3 from by omega,show ¬j*4+1=j*4+2 from by omega,show ¬j*4+1=j*4+3 from by omega,show ¬j*4+2=j*4+3 from by omega,if_false,if_true]
   exact⟨trivial,trivial,trivial,hw.kept fun k _ e1 e2=>hk k e1 e2⟩
noncomputable def yh:Code:=seqR zG
noncomputable def z6:Code:=seqR yh
theorem zdC:zG= .seq (seqL zG) yh:=rfl
theorem zft:yh= .seq (seqL yh) z6:=rfl
theorem zfu:z6= .seq (seqL z6) (seqR z6):=rfl
noncomputable def zh:Array Oper:=zw (seqL z6)
theorem zfL:∃id,seqL z6= .region id zh true:=⟨_,rfl⟩
theorem zcv(W:World)(g n:Nat)(a b c d:Value):W.setCells g (0+n*4) [a,b,c,d]=(((W.setCell ⟨g,n*4,none⟩ a).setCell ⟨g,n*4+1,none⟩ b).setCell ⟨g,n*4+2,none⟩ c).setCell ⟨g,n*4+3,none⟩ d:=by
 rw[Nat.zero_add];rfl
section
variable {B r gb N m:Nat} {o2:List Hold} {h':Bool} {depth kind:Int} {Q:Exit->Act->World->Prop} {D:List Deferred} {w:World}
def AppK(w:World)(B r gb:Nat)(o2:List Hold)(h':Bool)(kind depth:Int)(D:List Deferred)(Q:Exit->Act->World->Prop):Prop:=
 ∀(a':Act) (w':World),a'.tmps.size=223->a'.defers=D->ShM w' B r gb (o2++[⟨kind,depth,zC kind,0⟩]) h'->Ap r gb w w'->Q .normal a' w'
def SN(N:Nat)(depth kind:Int)(w:World):Prop:=w.cell? ⟨N,0,none⟩=some (.int .i64 depth)/\w.cell? ⟨N,1,none⟩=some (.int .i64 kind)
theorem vN(hQ:AppK w B r gb o2 h' kind depth D Q)(hm:m<=24)(hl:o2.length=m)(hNr:N≠r)(hNg:N≠gb)(listed:Array Bool)(r14:Region.ready .any zh listed=[14])(r15:Region.ready .any zh (listed.setIfInBounds 14 true)=[15])(r16:Region.ready .any zh ((listed.setIfInBounds 14 true).setIfInBounds 15 true)=[16])
 (r17:Region.ready .any zh (((listed.setIfInBounds 14 true).setIfInBounds 15 true).setIfInBounds 16 true)=[17]) (r18:Region.ready .any zh ((((listed.setIfInBounds 14 true).setIfInBounds 15 true).setIfInBounds 16 true).setIfInBounds 17 true)=[])
 (a:Act) (l:List (Nat×Value)) (hE:Ev D 223 a l) (W3:World) (k3:Kin w W3) (hM:ShM w B r gb o2 h') (b:Option Addr) (n c:Nat) (hw:zT W3 r gb (.slice b n c) (zC kind)) (hS:SN N depth kind W3)
 (m206:(206,Value.pointer (some ⟨r,0,none⟩))∈l) (m210:(210,Value.slice (some ⟨gb,0,none⟩) m 26)∈l) (m219:(219,Value.slice (some ⟨W3.heap.size,0,none⟩) 1 1)∈l) (hl2:∀k,k=220\/k=221\/k=222->(l.map (·.1)).contains k=false):
 wpAnyH Tryz.prog .any zh Q (SN N depth kind) 4 listed a (W3.alloc (.cells #[.int .i64 kind, .int .i64 depth, .slice b n c, .int .i64 0] 157)):=by
 obtain⟨ti,hi,hz0,hz1,hz2⟩:=info_parts zb0
 have k4:=k3.alloc (.cells #[.int .i64 kind, .int .i64 depth, .slice b n c, .int .i64 0] 157);have hM4:=hM.kin k4;have hsp:=za8 (m:=m) (by omega) hM _ k4
 have hone:=zgd kind depth 0 (v:= .slice b n c) rfl;have hSN:SN N depth kind (W3.alloc (.cells #[.int .i64 kind, .int .i64 depth, .slice b n c, .int .i64 0] 157)):=by
  have g:=World.grownBy_alloc W3 (.cells #[.int .i64 kind, .int .i64 depth, .slice b n c, .int .i64 0] 157) none;exact⟨g.cell hS.1 (by simp),g.cell hS.2 (by simp)⟩
 have hw4:zT (W3.alloc (.cells #[.int .i64 kind, .int .i64 depth, .slice b n c, .int .i64 0] 157)) r gb (.slice b n c) (zC kind):=hw.kept fun k hk _ _=>(World.grownBy_alloc W3 _ none).block k hk (by simp)
 have hnew:=four_new W3 (.int .i64 kind) (.int .i64 depth) (.slice b n c) (.int .i64 0) 157;have a4:Ap r gb w (W3.alloc (.cells #[.int .i64 kind, .int .i64 depth, .slice b n c, .int .i64 0] 157)):=Ap.of_kin k4;generalize hW4:W3.alloc (.cells #[.int .i64 kind, .int .i64 depth, .slice b n c, .int .i64 0] 157)=W4 at hM4 hsp hSN hnew hw4 a4⊢;have e206:=hE.get _ _ m206;have e210:=hE.get _ _ m210;have e219:=hE.get _ _ m219;refine hstep (i:=14) (o:=_) r14 rfl rfl ?_;have hw14:Region.wanted (zh[14]?.getD default) (yielded zh a.tmps)=true:=rfl
 suffices hK:SN N depth kind (W4.setCells gb (0+m*4) [.int .i64 kind, .int .i64 depth, .slice b n c, .int .i64 0])/\wpAnyH Tryz.prog .any zh Q (SN N depth kind) 3 (listed.setIfInBounds 14 true) (a.put (zh[14]?.getD default).dst (.slice (some ⟨gb,0,none⟩) (m+1) 26)) (W4.setCells gb (0+m*4) [.int .i64 kind, .int .i64 depth, .slice b n c, .int .i64 0]) by
  have:=step_append_room (P:=Tryz.prog) (ops:=zh) (w:=W4) (a:=a) (o:=(zh[14]?.getD default)) (Q:=Q) (E:=True) (K:=fun a' w'=>SN N depth kind w'/\wpAnyH Tryz.prog .any zh Q (SN N depth kind) 3 (listed.setIfInBounds 14 true) a' w') rfl (.tmp 210) (.tmp 219) 98 rfl 157 ti 4 Tryz.underlying98 hi hz1 gb 0 m 26 e210
   ⟨W3.heap.size,0,none⟩ 1 1 [.int .i64 kind, .int .i64 depth, .slice b n c, .int .i64 0] e219 rfl hnew hone (by omega) hsp hK
  rw[if_pos hw14] at this;exact this
 have hd14:(zh[14]?.getD default).dst=some 220:=by kernel_rfl
 rw[hd14,zcv];have hS5:SN N depth kind ((((W4.setCell ⟨gb,m*4,none⟩ (.int .i64 kind)).setCell ⟨gb,m*4+1,none⟩ (.int .i64 depth)).setCell ⟨gb,m*4+2,none⟩ (.slice b n c)).setCell ⟨gb,m*4+3,none⟩ (.int .i64 0)):=by
  unfold SN at hSN⊢
  simp[go_sem,hSN,hNg]
 have hfr:(((((W4.setCell ⟨gb,m*4,none⟩ (.int .i64 kind)).setCell ⟨gb,m*4+1,none⟩ (.int .i64 depth)).setCell ⟨gb,m*4+2,none⟩ (.slice b n c)).setCell ⟨gb,m*4+3,none⟩ (.int .i64 0))).frozen? ⟨r,0,none⟩=false:=by
  have:=hM4.fs 0
  simp[go_sem,this]
 have hcr:(((((W4.setCell ⟨gb,m*4,none⟩ (.int .i64 kind)).setCell ⟨gb,m*4+1,none⟩ (.int .i64 depth)).setCell ⟨gb,m*4+2,none⟩ (.slice b n c)).setCell ⟨gb,m*4+3,none⟩ (.int .i64 0))).cell? ⟨r,0,none⟩=some (.slice (some ⟨gb,0,none⟩) m 26):=by
  have:=hM4.c0
  have:=hM4.ne
  rw[hl] at*
  simp[go_sem, *]
 have hp:=hM4.push hl (by omega) kind depth 0 hw4
 have ap:=((((a4.set (a:=⟨gb,m*4,none⟩) (.inr rfl) (.int .i64 kind)).set (a:=⟨gb,m*4+1,none⟩) (.inr rfl) (.int .i64 depth)).set (a:=⟨gb,m*4+2,none⟩) (.inr rfl) (.slice b n c)).set (a:=⟨gb,m*4+3,none⟩) (.inr rfl) (.int .i64 0)).set (a:=⟨r,0,none⟩) (.inl rfl) (.slice (some ⟨gb,0,none⟩) (m+1:Nat) 26);generalize (((W4.setCell ⟨gb,m*4,none⟩ (.int .i64 kind)).setCell ⟨gb,m*4+1,none⟩ (.int .i64 depth)).setCell ⟨gb,m*4+2,none⟩ (.slice b n c)).setCell ⟨gb,m*4+3,none⟩ (.int .i64 0)=W5 at hS5 hfr hcr hp ap⊢;refine⟨hS5,?_⟩;have hE1:=hE.put 220 (.slice (some ⟨gb,0,none⟩) (m+1) 26) (by omega) (hl2 _ (.inl rfl))
 generalize a.put (some 220) (.slice (some ⟨gb,0,none⟩) (m+1) 26)=a1 at hE1⊢;refine hstep (i:=15) (o:=_) r15 rfl rfl ?_;have e1:=hE1.get _ _ (List.mem_cons_of_mem _ m206);have run15:(execOp a1.eval (zh[15]?.getD default)).run Tryz.prog W5= .ok (.value (.pointer (some ⟨r,0,none⟩))) W5:=by
  generalize a1.eval=ρ at e1⊢;simp only[zh,z6,yh,zG,st0,seqL,seqR,zw,Tryz.f51,Option.getD_some];simp[execOp,e1]
 show Oper.wp Tryz.prog (zh[15]?.getD default) a1 W5 _ Q;unfold Oper.wp;rw[run15];refine⟨hS5,?_⟩;have hE2:=hE1.put 221 (.pointer (some ⟨r,0,none⟩)) (by omega) (by rw[List.map_cons,List.contains_cons,hl2 221 (.inr (.inl rfl))];rfl)
 show wpAnyH Tryz.prog .any zh Q (SN N depth kind) 2 _ (a1.put (some 221) (.pointer (some ⟨r,0,none⟩))) W5;generalize a1.put (some 221) (.pointer (some ⟨r,0,none⟩))=a2 at hE2⊢;refine hstep (i:=16) (o:=_) r16 rfl rfl ?_;have e2:=hE2.get 221 _ (List.mem_cons_self ..);have run16:(execOp a2.eval (zh[16]?.getD default)).run Tryz.prog W5= .ok (.value (.pointer (some ⟨r,0,none⟩))) W5:=by
  generalize a2.eval=ρ at e2⊢;simp only[zh,z6,yh,zG,st0,seqL,seqR,zw,Tryz.f51,Option.getD_some];simp[execOp,e2,go_sem]
 show Oper.wp Tryz.prog (zh[16]?.getD default) a2 W5 _ Q;unfold Oper.wp;rw[run16];refine⟨hS5,?_⟩;have hE3:=hE2.put 222 (.pointer (some ⟨r,0,none⟩)) (by omega) (by rw[List.map_cons,List.contains_cons,List.map_cons,List.contains_cons,hl2 222 (.inr (.inr rfl))];rfl)
 show wpAnyH Tryz.prog .any zh Q (SN N depth kind) 1 _ (a2.put (some 222) (.pointer (some ⟨r,0,none⟩))) W5;generalize a2.put (some 222) (.pointer (some ⟨r,0,none⟩))=a3 at hE3⊢;refine hstep (i:=17) (o:=_) r17 rfl rfl ?_;have e3:=hE3.get 222 _ (List.mem_cons_self ..);have e4:=hE3.get 220 (.slice (some ⟨gb,0,none⟩) (m+1) 26) (by simp)
 have run17:(execOp a3.eval (zh[17]?.getD default)).run Tryz.prog W5= .ok .skip (W5.setCell ⟨r,0,none⟩ (.slice (some ⟨gb,0,none⟩) (m+1) 26)):=by
  generalize a3.eval=ρ at e3 e4⊢;simp only[zh,z6,yh,zG,st0,seqL,seqR,zw,Tryz.f51,Option.getD_some];simp[execOp,e3,e4,go_sem,hcr,hfr]
 show Oper.wp Tryz.prog (zh[17]?.getD default) a3 W5 _ Q;unfold Oper.wp;rw[run17];refine⟨?_,r18,hQ _ _ hE3.size hE3.defers hp ap⟩;unfold SN at hS5⊢
 simp[go_sem,hS5,hNr]
theorem zc0(hQ:AppK w B r gb o2 h' kind depth D Q)(hPQ:∀(d:Option Tmp) (v:Value) (c:List PanicEntry) (a:Act) (w:World),Q (.panic c) (a.put d v) w->Q (.panic c) a w)(hm:m<=24)(hl:o2.length=m)(hNr:N≠r)(hNg:N≠gb)(hM:ShM w B r gb o2 h')(hS:SN N depth kind w)
 (a:Act) (hE:Ev D 223 a [(0, .pointer (some ⟨r,0,none⟩)),(3, .pointer (some ⟨N,0,none⟩))]):(seqL z6).wp Tryz.prog Q a w:=by
 obtain⟨id,hid⟩:=zfL
 rw[hid];have hsz:zh.size=18:=by kernel_rfl
 refine wp_region_held_drew (S:=SN N depth kind) (by kernel_rfl) hS fun hS=>?_
 have HM:ShM w.drew B r gb o2 h':=hM.drewN 1;have c0:=HM.c0;rw[hl] at c0;have hrl:=HM.s.lt;have hgl:gb<w.drew.heap.size:=by obtain⟨F,h1,_⟩:=HM.row;exact h1.lt
 have hNl:N<w.drew.heap.size:=World.block_lt_of_cell? w.drew ⟨N,0,none⟩ hS.1;have kW:Kin w w.drew:=(Kin.refl w).drewN 1;generalize w.drew=W at HM c0 hrl hgl hNl hS kW⊢;rw[hsz];have g0_0:=hE.get 0 (.pointer (some ⟨r,0,none⟩)) (by simp)
 have y0:∀w',SN N depth kind w'->(execOp a.eval (zh[0]?.getD default)).run Tryz.prog w'= .ok (.value (.pointer (some ⟨r,0,none⟩))) w':=fun w' hw'=>by
  generalize a.eval=ρ at g0_0⊢;simp only[zh,z6,yh,zG,st0,seqL,seqR,zw,Tryz.f51,Option.getD_some];unfold SN at hw';simp[execOp,g0_0,go_sem,hw']
 refine wpAnyH_take (i:=0) (oi:=_) (v:= .pointer (some ⟨r,0,none⟩)) rfl (by kernel_rfl) (by kernel_rfl) (by kernel_rfl) (fun c a w'=>hPQ _ _ c a w') (.inl ⟨rfl,y0⟩) hS ?_
 have hE1':=hE.put 206 (.pointer (some ⟨r,0,none⟩)) (by decide) rfl
 change wpAnyH Tryz.prog .any zh Q (SN N depth kind) 17 _ (a.put (some 206) (.pointer (some ⟨r,0,none⟩))) W;generalize a.put (some 206) (.pointer (some ⟨r,0,none⟩))=a1 at hE1'⊢;clear y0 g0_0;have g1_0:=hE1'.get 0 (.pointer (some ⟨r,0,none⟩)) (by simp)
 have y1:∀w',SN N depth kind w'->(execOp a1.eval (zh[1]?.getD default)).run Tryz.prog w'= .ok (.value (.pointer (some ⟨r,0,none⟩))) w':=fun w' hw'=>by
  generalize a1.eval=ρ at g1_0⊢;simp only[zh,z6,yh,zG,st0,seqL,seqR,zw,Tryz.f51,Option.getD_some];unfold SN at hw';simp[execOp,g1_0,go_sem,hw']
 refine wpAnyH_take (i:=1) (oi:=_) (v:= .pointer (some ⟨r,0,none⟩)) rfl (by kernel_rfl) (by kernel_rfl) (by kernel_rfl) (fun c a w'=>hPQ _ _ c a w') (.inl ⟨rfl,y1⟩) hS ?_
 have hE2':=hE1'.put 207 (.pointer (some ⟨r,0,none⟩)) (by decide) rfl
 change wpAnyH Tryz.prog .any zh Q (SN N depth kind) 16 _ (a1.put (some 207) (.pointer (some ⟨r,0,none⟩))) W;generalize a1.put (some 207) (.pointer (some ⟨r,0,none⟩))=a2 at hE2'⊢;clear y1 g1_0;have g2_207:=hE2'.get 207 (.pointer (some ⟨r,0,none⟩)) (by simp)
 have y2:∀w',SN N depth kind w'->(execOp a2.eval (zh[2]?.getD default)).run Tryz.prog w'= .ok (.value (.pointer (some ⟨r,0,none⟩))) w':=fun w' hw'=>by
  generalize a2.eval=ρ at g2_207⊢;simp only[zh,z6,yh,zG,st0,seqL,seqR,zw,Tryz.f51,Option.getD_some];unfold SN at hw';simp[execOp,g2_207,go_sem,hw']
 refine wpAnyH_take (i:=2) (oi:=_) (v:= .pointer (some ⟨r,0,none⟩)) rfl (by kernel_rfl) (by kernel_rfl) (by kernel_rfl) (fun c a w'=>hPQ _ _ c a w') (.inl ⟨rfl,y2⟩) hS ?_
 have hE3':=hE2'.put 208 (.pointer (some ⟨r,0,none⟩)) (by decide) rfl
 change wpAnyH Tryz.prog .any zh Q (SN N depth kind) 15 _ (a2.put (some 208) (.pointer (some ⟨r,0,none⟩))) W;generalize a2.put (some 208) (.pointer (some ⟨r,0,none⟩))=a3 at hE3'⊢;clear y2 g2_207;have g3_208:=hE3'.get 208 (.pointer (some ⟨r,0,none⟩)) (by simp)
 have y3:∀w',SN N depth kind w'->(execOp a3.eval (zh[3]?.getD default)).run Tryz.prog w'= .ok (.value (.pointer (some ⟨r,0,none⟩))) w':=fun w' hw'=>by
  generalize a3.eval=ρ at g3_208⊢;simp only[zh,z6,yh,zG,st0,seqL,seqR,zw,Tryz.f51,Option.getD_some];unfold SN at hw';simp[execOp,g3_208,go_sem,hw']
 refine wpAnyH_take (i:=3) (oi:=_) (v:= .pointer (some ⟨r,0,none⟩)) rfl (by kernel_rfl) (by kernel_rfl) (by kernel_rfl) (fun c a w'=>hPQ _ _ c a w') (.inl ⟨rfl,y3⟩) hS ?_
 have hE4':=hE3'.put 209 (.pointer (some ⟨r,0,none⟩)) (by decide) rfl
 change wpAnyH Tryz.prog .any zh Q (SN N depth kind) 14 _ (a3.put (some 209) (.pointer (some ⟨r,0,none⟩))) W;generalize a3.put (some 209) (.pointer (some ⟨r,0,none⟩))=a4 at hE4'⊢;clear y3 g3_208;have g5_3:=hE4'.get 3 (.pointer (some ⟨N,0,none⟩)) (by simp)
 have y5:∀w',SN N depth kind w'->(execOp a4.eval (zh[5]?.getD default)).run Tryz.prog w'= .ok (.value (.pointer (some ⟨N,1,none⟩))) w':=fun w' hw'=>by
  generalize a4.eval=ρ at g5_3⊢;simp only[zh,z6,yh,zG,st0,seqL,seqR,zw,Tryz.f51,Option.getD_some];unfold SN at hw';simp[execOp,g5_3,go_sem,hw']
 refine wpAnyH_take (i:=5) (oi:=_) (v:= .pointer (some ⟨N,1,none⟩)) rfl (by kernel_rfl) (by kernel_rfl) (by kernel_rfl) (fun c a w'=>hPQ _ _ c a w') (.inl ⟨rfl,y5⟩) hS ?_
 have hE5':=hE4'.put 211 (.pointer (some ⟨N,1,none⟩)) (by decide) rfl
 change wpAnyH Tryz.prog .any zh Q (SN N depth kind) 13 _ (a4.put (some 211) (.pointer (some ⟨N,1,none⟩))) W;generalize a4.put (some 211) (.pointer (some ⟨N,1,none⟩))=a5 at hE5'⊢;clear y5 g5_3;have g6_211:=hE5'.get 211 (.pointer (some ⟨N,1,none⟩)) (by simp)
 have y6:∀w',SN N depth kind w'->(execOp a5.eval (zh[6]?.getD default)).run Tryz.prog w'= .ok (.value (.int .i64 kind)) w':=fun w' hw'=>by
  generalize a5.eval=ρ at g6_211⊢;simp only[zh,z6,yh,zG,st0,seqL,seqR,zw,Tryz.f51,Option.getD_some];unfold SN at hw';simp[execOp,g6_211,go_sem,hw']
 refine wpAnyH_take (i:=6) (oi:=_) (v:= .int .i64 kind) rfl (by kernel_rfl) (by kernel_rfl) (by kernel_rfl) (fun c a w'=>hPQ _ _ c a w') (.inl ⟨rfl,y6⟩) hS ?_
 have hE6':=hE5'.put 212 (.int .i64 kind) (by decide) rfl
 change wpAnyH Tryz.prog .any zh Q (SN N depth kind) 12 _ (a5.put (some 212) (.int .i64 kind)) W;generalize a5.put (some 212) (.int .i64 kind)=a6 at hE6'⊢;clear y6 g6_211;have g7_3:=hE6'.get 3 (.pointer (some ⟨N,0,none⟩)) (by simp)
 have y7:∀w',SN N depth kind w'->(execOp a6.eval (zh[7]?.getD default)).run Tryz.prog w'= .ok (.value (.pointer (some ⟨N,0,none⟩))) w':=fun w' hw'=>by
  generalize a6.eval=ρ at g7_3⊢;simp only[zh,z6,yh,zG,st0,seqL,seqR,zw,Tryz.f51,Option.getD_some];unfold SN at hw';simp[execOp,g7_3,go_sem,hw']
 refine wpAnyH_take (i:=7) (oi:=_) (v:= .pointer (some ⟨N,0,none⟩)) rfl (by kernel_rfl) (by kernel_rfl) (by kernel_rfl) (fun c a w'=>hPQ _ _ c a w') (.inl ⟨rfl,y7⟩) hS ?_
 have hE7':=hE6'.put 213 (.pointer (some ⟨N,0,none⟩)) (by decide) rfl
 change wpAnyH Tryz.prog .any zh Q (SN N depth kind) 11 _ (a6.put (some 213) (.pointer (some ⟨N,0,none⟩))) W;generalize a6.put (some 213) (.pointer (some ⟨N,0,none⟩))=a7 at hE7'⊢;clear y7 g7_3;have g8_213:=hE7'.get 213 (.pointer (some ⟨N,0,none⟩)) (by simp)
 have y8:∀w',SN N depth kind w'->(execOp a7.eval (zh[8]?.getD default)).run Tryz.prog w'= .ok (.value (.int .i64 depth)) w':=fun w' hw'=>by
  generalize a7.eval=ρ at g8_213⊢;simp only[zh,z6,yh,zG,st0,seqL,seqR,zw,Tryz.f51,Option.getD_some];unfold SN at hw';simp[execOp,g8_213,go_sem,hw']
 refine wpAnyH_take (i:=8) (oi:=_) (v:= .int .i64 depth) rfl (by kernel_rfl) (by kernel_rfl) (by kernel_rfl) (fun c a w'=>hPQ _ _ c a w') (.inl ⟨rfl,y8⟩) hS ?_
 have hE8':=hE7'.put 214 (.int .i64 depth) (by decide) rfl
 change wpAnyH Tryz.prog .any zh Q (SN N depth kind) 10 _ (a7.put (some 214) (.int .i64 depth)) W;generalize a7.put (some 214) (.int .i64 depth)=a8 at hE8'⊢;clear y8 g8_213;have g9_3:=hE8'.get 3 (.pointer (some ⟨N,0,none⟩)) (by simp)
 have y9:∀w',SN N depth kind w'->(execOp a8.eval (zh[9]?.getD default)).run Tryz.prog w'= .ok (.value (.pointer (some ⟨N,1,none⟩))) w':=fun w' hw'=>by
  generalize a8.eval=ρ at g9_3⊢;simp only[zh,z6,yh,zG,st0,seqL,seqR,zw,Tryz.f51,Option.getD_some];unfold SN at hw';simp[execOp,g9_3,go_sem,hw']
 refine wpAnyH_take (i:=9) (oi:=_) (v:= .pointer (some ⟨N,1,none⟩)) rfl (by kernel_rfl) (by kernel_rfl) (by kernel_rfl) (fun c a w'=>hPQ _ _ c a w') (.inl ⟨rfl,y9⟩) hS ?_
 have hE9':=hE8'.put 215 (.pointer (some ⟨N,1,none⟩)) (by decide) rfl
 change wpAnyH Tryz.prog .any zh Q (SN N depth kind) 9 _ (a8.put (some 215) (.pointer (some ⟨N,1,none⟩))) W;generalize a8.put (some 215) (.pointer (some ⟨N,1,none⟩))=a9 at hE9'⊢;clear y9 g9_3;have g10_215:=hE9'.get 215 (.pointer (some ⟨N,1,none⟩)) (by simp)
 have y10:∀w',SN N depth kind w'->(execOp a9.eval (zh[10]?.getD default)).run Tryz.prog w'= .ok (.value (.int .i64 kind)) w':=fun w' hw'=>by
  generalize a9.eval=ρ at g10_215⊢;simp only[zh,z6,yh,zG,st0,seqL,seqR,zw,Tryz.f51,Option.getD_some];unfold SN at hw';simp[execOp,g10_215,go_sem,hw']
 refine wpAnyH_take (i:=10) (oi:=_) (v:= .int .i64 kind) rfl (by kernel_rfl) (by kernel_rfl) (by kernel_rfl) (fun c a w'=>hPQ _ _ c a w') (.inl ⟨rfl,y10⟩) hS ?_
 have hE10':=hE9'.put 216 (.int .i64 kind) (by decide) rfl
 change wpAnyH Tryz.prog .any zh Q (SN N depth kind) 8 _ (a9.put (some 216) (.int .i64 kind)) W;generalize a9.put (some 216) (.int .i64 kind)=a10 at hE10'⊢;clear y10 g10_215;have load4:∀(a:Act) (w':World) (K:Act->World->Prop),a.eval (.tmp 209)= .pointer (some ⟨r,0,none⟩)->w'.cell? ⟨r,0,none⟩=some (.slice (some ⟨gb,0,none⟩) m 26)->K (a.put (some 210) (.slice (some ⟨gb,0,none⟩) m 26)) w'->Oper.wp Tryz.prog (zh[4]?.getD default) a w' K Q:=by
  intro a w' K e hc hK;have hrun:(execOp a.eval (zh[4]?.getD default)).run Tryz.prog w'= .ok (.value (.slice (some ⟨gb,0,none⟩) m 26)) w':=by
   generalize a.eval=ρ at e⊢;simp only[zh,z6,yh,zG,st0,seqL,seqR,zw,Tryz.f51,Option.getD_some];simp[execOp,e,go_sem,hc]
  unfold Oper.wp;rw[hrun];exact hK
 have call11:∀(a:Act) (w':World) (K:Act->World->Prop),a.eval (.tmp 216)= .int .i64 kind->(∀b n c w3,Kin w' w3->(∀r gb,r<w'.heap.size->gb<w'.heap.size->zT w3 r gb (.slice b n c) (zC kind))->K (a.put (some 217) (.slice b n c)) w3)->Oper.wp Tryz.prog (zh[11]?.getD default) a w' K Q:=by
  intro a w' K e hK;unfold Oper.wp;rw[run_callf Tryz.func99 (by kernel_rfl) (by kernel_rfl) (o:=(zh[11]?.getD default)) (ags:= #[.tmp 216]) (ts:= #[47]) (by kernel_rfl) a w']
  have hm:(#[Operand.tmp 216].map a.eval)= #[.int .i64 kind]:=by simp[e]
  rw[hm];refine Calls.mono (zdu kind w') ?_;rintro e w3 ⟨b,n,c,rfl,k3,hw⟩;exact hK b n c w3 k3 hw
 have build12:∀(a:Act) (w':World) (K:Act->World->Prop) (b:Option Addr) (n c:Nat),a.eval (.tmp 212)= .int .i64 kind->a.eval (.tmp 214)= .int .i64 depth->a.eval (.tmp 217)= .slice b n c->K (a.put (some 218) (.agg #[.int .i64 kind, .int .i64 depth, .slice b n c, .int .i64 0])) w'->Oper.wp Tryz.prog (zh[12]?.getD default) a w' K Q:=by
  intro a w' K b n c e1 e2 e3 hK;have hrun:(execOp a.eval (zh[12]?.getD default)).run Tryz.prog w'= .ok (.value (.agg #[.int .i64 kind, .int .i64 depth, .slice b n c, .int .i64 0])) w':=by
   generalize a.eval=ρ at e1 e2 e3⊢;simp only[zh,z6,yh,zG,st0,seqL,seqR,zw,Tryz.f51,Option.getD_some];simp[execOp,e1,e2,e3,go_sem]
  unfold Oper.wp;rw[hrun];exact hK
 have slice13:∀(a:Act) (w':World) (K:Act->World->Prop) (b:Option Addr) (n c:Nat),a.eval (.tmp 218)= .agg #[.int .i64 kind, .int .i64 depth, .slice b n c, .int .i64 0]->K (a.put (some 219) (.slice (some ⟨w'.heap.size,0,none⟩) 1 1)) (w'.alloc (.cells #[.int .i64 kind, .int .i64 depth, .slice b n c, .int .i64 0] 157))->Oper.wp Tryz.prog (zh[13]?.getD default) a w' K Q:=by
  intro a w' K b n c e1 hK;have hrun:(execOp a.eval (zh[13]?.getD default)).run Tryz.prog w'= .ok (.value (.slice (some ⟨w'.heap.size,0,none⟩) 1 1)) (w'.alloc (.cells #[.int .i64 kind, .int .i64 depth, .slice b n c, .int .i64 0] 157)):=by
   generalize a.eval=ρ at e1⊢;simp only[zh,z6,yh,zG,st0,seqL,seqR,zw,Tryz.f51,Option.getD_some];simp[execOp,e1,go_sem]
  unfold Oper.wp;rw[hrun];exact hK
 have hSk:∀w',Kin W w'->SN N depth kind w':=fun w' k=>⟨(k.cell hNl).trans hS.1,(k.cell hNl).trans hS.2⟩;have hck:∀w',Kin W w'->w'.cell? ⟨r,0,none⟩=some (.slice (some ⟨gb,0,none⟩) m 26):=fun w' k=>(k.cell hrl).trans c0;refine zax (i:=4) (j:=11) (o:=_) (p:=_) (by kernel_rfl) rfl rfl rfl rfl ?_ ?_
 ·refine load4 a10 W _ (hE10'.get 209 _ (by simp)) c0 ⟨hS,?_⟩
  have f1:=hE10'.put 210 (.slice (some ⟨gb,0,none⟩) m 26) (by decide) rfl
  generalize a10.put (some 210) (.slice (some ⟨gb,0,none⟩) m 26)=b1 at f1⊢;refine hstep (i:=11) (o:=_) (by kernel_rfl) rfl rfl ?_
  refine call11 b1 W _ (f1.get 216 _ (by simp)) fun b n c w3 k3 hw=>⟨hSk w3 k3,?_⟩
  have f2:=f1.put 217 (.slice b n c) (by decide) rfl
  generalize b1.put (some 217) (.slice b n c)=b2 at f2⊢;refine hstep (i:=12) (o:=_) (by kernel_rfl) rfl rfl ?_
  refine build12 b2 w3 _ b n c (f2.get 212 _ (by simp)) (f2.get 214 _ (by simp)) (f2.get 217 _ (by simp)) ⟨hSk w3 k3,?_⟩
  have f3:=f2.put 218 (.agg #[.int .i64 kind, .int .i64 depth, .slice b n c, .int .i64 0]) (by decide) rfl
  generalize b2.put (some 218) (.agg #[.int .i64 kind, .int .i64 depth, .slice b n c, .int .i64 0])=b3 at f3⊢;refine hstep (i:=13) (o:=_) (by kernel_rfl) rfl rfl ?_
  refine slice13 b3 w3 _ b n c (f3.get 218 _ (by simp)) ⟨hSk _ (k3.alloc _),?_⟩
  have f4:=f3.put 219 (.slice (some ⟨w3.heap.size,0,none⟩) 1 1) (by decide) rfl
  generalize b3.put (some 219) (.slice (some ⟨w3.heap.size,0,none⟩) 1 1)=b4 at f4⊢;exact vN hQ hm hl hNr hNg _ (by kernel_rfl) (by kernel_rfl) (by kernel_rfl) (by kernel_rfl) (by kernel_rfl) b4 _ f4 w3 (kW.trans k3) hM b n c (hw r gb hrl hgl) (hSk w3 k3) (by simp) (by simp) (by simp) (by rintro k (rfl|rfl|rfl)<;>rfl)
 ·refine call11 a10 W _ (hE10'.get 216 _ (by simp)) fun b n c w3 k3 hw=>⟨hSk w3 k3,?_⟩
  have f1:=hE10'.put 217 (.slice b n c) (by decide) rfl
  generalize a10.put (some 217) (.slice b n c)=b1 at f1⊢;refine zax (i:=4) (j:=12) (o:=_) (p:=_) (by kernel_rfl) rfl rfl rfl rfl ?_ ?_
  ·refine load4 b1 w3 _ (f1.get 209 _ (by simp)) (hck w3 k3) ⟨hSk w3 k3,?_⟩
   have f2:=f1.put 210 (.slice (some ⟨gb,0,none⟩) m 26) (by decide) rfl
   generalize b1.put (some 210) (.slice (some ⟨gb,0,none⟩) m 26)=b2 at f2⊢;refine hstep (i:=12) (o:=_) (by kernel_rfl) rfl rfl ?_
   refine build12 b2 w3 _ b n c (f2.get 212 _ (by simp)) (f2.get 214 _ (by simp)) (f2.get 217 _ (by simp)) ⟨hSk w3 k3,?_⟩
   have f3:=f2.put 218 (.agg #[.int .i64 kind, .int .i64 depth, .slice b n c, .int .i64 0]) (by decide) rfl
   generalize b2.put (some 218) (.agg #[.int .i64 kind, .int .i64 depth, .slice b n c, .int .i64 0])=b3 at f3⊢;refine hstep (i:=13) (o:=_) (by kernel_rfl) rfl rfl ?_
   refine slice13 b3 w3 _ b n c (f3.get 218 _ (by simp)) ⟨hSk _ (k3.alloc _),?_⟩
   have f4:=f3.put 219 (.slice (some ⟨w3.heap.size,0,none⟩) 1 1) (by decide) rfl
   generalize b3.put (some 219) (.slice (some ⟨w3.heap.size,0,none⟩) 1 1)=b4 at f4⊢;exact vN hQ hm hl hNr hNg _ (by kernel_rfl) (by kernel_rfl) (by kernel_rfl) (by kernel_rfl) (by kernel_rfl) b4 _ f4 w3 (kW.trans k3) hM b n c (hw r gb hrl hgl) (hSk w3 k3) (by simp) (by simp) (by simp) (by rintro k (rfl|rfl|rfl)<;>rfl)
  ·refine build12 b1 w3 _ b n c (f1.get 212 _ (by simp)) (f1.get 214 _ (by simp)) (f1.get 217 _ (by simp)) ⟨hSk w3 k3,?_⟩
   have f2:=f1.put 218 (.agg #[.int .i64 kind, .int .i64 depth, .slice b n c, .int .i64 0]) (by decide) rfl
   generalize b1.put (some 218) (.agg #[.int .i64 kind, .int .i64 depth, .slice b n c, .int .i64 0])=b2 at f2⊢;refine zax (i:=4) (j:=13) (o:=_) (p:=_) (by kernel_rfl) rfl rfl rfl rfl ?_ ?_
   ·refine load4 b2 w3 _ (f2.get 209 _ (by simp)) (hck w3 k3) ⟨hSk w3 k3,?_⟩
    have f3:=f2.put 210 (.slice (some ⟨gb,0,none⟩) m 26) (by decide) rfl
    generalize b2.put (some 210) (.slice (some ⟨gb,0,none⟩) m 26)=b3 at f3⊢;refine hstep (i:=13) (o:=_) (by kernel_rfl) rfl rfl ?_
    refine slice13 b3 w3 _ b n c (f3.get 218 _ (by simp)) ⟨hSk _ (k3.alloc _),?_⟩
    have f4:=f3.put 219 (.slice (some ⟨w3.heap.size,0,none⟩) 1 1) (by decide) rfl
    generalize b3.put (some 219) (.slice (some ⟨w3.heap.size,0,none⟩) 1 1)=b4 at f4⊢;exact vN hQ hm hl hNr hNg _ (by kernel_rfl) (by kernel_rfl) (by kernel_rfl) (by kernel_rfl) (by kernel_rfl) b4 _ f4 w3 (kW.trans k3) hM b n c (hw r gb hrl hgl) (hSk w3 k3) (by simp) (by simp) (by simp) (by rintro k (rfl|rfl|rfl)<;>rfl)
   ·refine slice13 b2 w3 _ b n c (f2.get 218 _ (by simp)) ⟨hSk _ (k3.alloc _),?_⟩
    have f3:=f2.put 219 (.slice (some ⟨w3.heap.size,0,none⟩) 1 1) (by decide) rfl
    generalize b2.put (some 219) (.slice (some ⟨w3.heap.size,0,none⟩) 1 1)=b3 at f3⊢;refine hstep (i:=4) (o:=_) (by kernel_rfl) rfl rfl ?_
    refine load4 b3 _ _ (f3.get 209 _ (by simp)) (hck _ (k3.alloc _)) ⟨hSk _ (k3.alloc _),?_⟩
    have f4:=f3.put 210 (.slice (some ⟨gb,0,none⟩) m 26) (by decide) rfl
    generalize b3.put (some 210) (.slice (some ⟨gb,0,none⟩) m 26)=b4 at f4⊢;exact vN hQ hm hl hNr hNg _ (by kernel_rfl) (by kernel_rfl) (by kernel_rfl) (by kernel_rfl) (by kernel_rfl) b4 _ f4 w3 (kW.trans k3) hM b n c (hw r gb hrl hgl) (hSk w3 k3) (by simp) (by simp) (by simp) (by rintro k (rfl|rfl|rfl)<;>rfl)
end
theorem stand_app{B r gb N m:Nat}{o o2:List Hold}{heads h':Bool}{depth kind:Int}{name:ByteArray}{num op at_:Int}{w wx:World}(a:Act)(hE:Ev [] 223 a [(0, .pointer (some ⟨r,0,none⟩)),(3, .pointer (some ⟨N,0,none⟩))])(hM:ShM wx B r gb o2 h')(cN0:wx.cell? ⟨N,0,none⟩=some (.int .i64 depth))(cN1:wx.cell? ⟨N,1,none⟩=some (.int .i64 kind))(hNr:N≠r)(hNg:N≠gb)(hl:o2.length=m)(hm:m<=24)
 (hst:xg o heads ⟨depth,kind,name,num,op,at_⟩=some (o2++[⟨kind,depth,zC kind,0⟩],h')) (ha:Ap r gb w wx):
 z6.wp Tryz.prog (bodyPost Tryz.prog Tryz.f51 (StandPost w B r gb o heads ⟨depth,kind,name,num,op,at_⟩)) a wx:=by
 rw[zfu];refine wp_seq (zc0 (D:=[]) ?_ ?_ hm hl hNr hNg hM ⟨cN0,cN1⟩ a hE)
 ·rintro⟨t',d'⟩ w' hsz hdf hM' hA'
  obtain rfl:d'=[]:=hdf;obtain⟨a',ha'⟩:∃a':Act,a'=⟨t',[]⟩:=⟨_,rfl⟩
  have hsz:a'.tmps.size=223:=by rw[ha'];exact hsz
  have hdf:a'.defers=[]:=by rw[ha']
  rw[<-ha'];show(seqR z6).wp Tryz.prog (bodyPost Tryz.prog Tryz.f51 (StandPost w B r gb o heads ⟨depth,kind,name,num,op,at_⟩)) a' w'
  have hfin:bodyPost Tryz.prog Tryz.f51 (StandPost w B r gb o heads ⟨depth,kind,name,num,op,at_⟩) .ret (a'.put (some 4) (.bool true)) w':=by
   refine⟨hdf, .bool true,?_,ha.trans hA',?_⟩
   ·have:(a'.put (some 4) (.bool true)).tmps.getD 4 undef= .bool true:=by
     show(a'.tmps.setIfInBounds 4 (.bool true)).getD 4 undef=_
     simp[Array.getD_eq_getD_getElem?,Array.getElem?_setIfInBounds,hsz]
    generalize (a'.put (some 4) (.bool true)).tmps=t at this⊢;have hr:Tryz.f51.results= #[.tmp 4]:=rfl;rw[Array.getD_eq_getD_getElem?] at this;simp[results,hr,this]
   ·rw[hst];exact⟨rfl,hM'⟩
  generalize bodyPost Tryz.prog Tryz.f51 (StandPost w B r gb o heads ⟨depth,kind,name,num,op,at_⟩)=Q at hfin⊢;subst ha';have HF:=Lib.hid hfin;clear hfin hdf;simp only[z6,yh,zG,st0,seqR,Tryz.f51,Option.getD_some];go_wp2;exact HF.out
 ·intro d v c a w h;refine⟨?_,h.2⟩;have h1:=h.1;cases d<;>exact h1
theorem stand_pop{B r gb N:Nat}{o o1:List Hold}{heads h':Bool}{depth kind:Int}{name:ByteArray}{num op at_:Int}{w wx:World}(hM:ShM wx B r gb o1 h')(cN0:wx.cell? ⟨N,0,none⟩=some (.int .i64 depth))(cN1:wx.cell? ⟨N,1,none⟩=some (.int .i64 kind))(hNr:N≠r)(hNg:N≠gb)(hd:∀(j:Nat) (x:Hold),o1[j]? =some x->x.depth=j+1)(ho:o1.length<=24)
 (hst:xg o heads ⟨depth,kind,name,num,op,at_⟩=some (popF depth o1++[⟨kind,depth,zC kind,0⟩],h')) (ha:Ap r gb w wx) (u1 u2 u5 u6 u7 u8 u9 u10 u11 u12 u13 u14 u15 u16 u17 u18 u19 u20 u21 u22 u23 u24 u25 u26 u27 u28 u29 u30 u31 u32 u33 u34 u35 u36 u37 u38 u39 u40 u41 u42 u43 u44 u45 u46 u47 u48 u49 u50 u51 u52 u53 u54 u55 u56 u57 u58 u59 u60 u61 u62 u63 u64 u65 u66 u67 u68 u69 u70 u71 u72 u73 u74 u75 u76 u77 u78 u79 u80 u81 u82 u83 u84 u85 u86 u87 u88 u89 u90 u91 u92 u93 u94 u95 u96 u97 u98 u99 u100 u101 u102 u103 u104 u105 u106 u107 u108 u109 u110 u111 u112 u113 u114 u115 u116 u117 u118 u119 u120 u121 u122 u123 u124 u125 u126 u127 u128 u129 u130 u131 u132 u133 u134 u135 u136 u137 u138 u139 u140 u141 u142 u143 u144 u145 u146 u147 u148 u149 u150 u151 u152 u153 u154 u155 u156 u157 u158 u159 u160 u161 u162 u163 u164 u165 u166 u167 u168 u169 u170 u171 u172 u173 u174 u175 u176 u177 u178 u179 u180 u181 u182 u183 u184 u185 u186 u187 u188 u189 u190 u191 u192 u193 u194 u195 u196 u197 u198 u199 u200 u201 u202 u203 u204 u205 u206 u207 u208 u209 u210 u211 u212 u213 u214 u215 u216 u217 u218 u219 u220 u221 u222:Value):
 yh.wp Tryz.prog (bodyPost Tryz.prog Tryz.f51 (StandPost w B r gb o heads ⟨depth,kind,name,num,op,at_⟩)) ⟨(.pointer (some ⟨r,0,none⟩)::u1::u2:: .pointer (some ⟨N,0,none⟩):: .bool false::u5::u6::u7::u8::u9::u10::u11::u12::u13::u14::u15::u16::u17::u18::u19::u20::u21::u22::u23::u24::u25::u26::u27::u28::u29::u30::u31::u32::u33::u34::u35::u36::u37::u38::u39::u40::u41::u42::u43::u44::u45::u46::u47::u48::u49::u50::u51::u52::u53::u54::u55::u56::u57::u58::u59::u60::u61::u62::u63::u64::u65::u66::u67::u68::u69::u70::u71::u72::u73::u74::u75::u76::u77::u78::u79::u80::u81::u82::u83::u84::u85::u86::u87::u88::u89::u90::u91::u92::u93::u94::u95::u96::u97::u98::u99::u100::u101::u102::u103::u104::u105::u106::u107::u108::u109::u110::u111::u112::u113::u114::u115::u116::u117::u118::u119::u120::u121::u122::u123::u124::u125::u126::u127::u128::u129::u130::u131::u132::u133::u134::u135::u136::u137::u138::u139::u140::u141::u142::u143::u144::u145::u146::u147::u148::u149::u150::u151::u152::u153::u154::u155::u156::u157::u158::u159::u160::u161::u162::u163::u164::u165::u166::u167::u168::u169::u170::u171::u172::u173::u174::u175::u176::u177::u178::u179::u180::u181::u182::u183::u184::u185::u186::u187::u188::u189::u190::u191::u192::u193::u194::u195::u196::u197::u198::u199::u200::u201::u202::u203::u204::u205::u206::u207::u208::u209::u210::u211::u212::u213::u214::u215::u216::u217::u218::u219::u220::u221::u222::[]).toArray,[]⟩ wx:=by
 have HM:=Lib.hid hM;have HD:=Lib.hid hd;have HA:=Lib.hid ha;have HS:=Lib.hid hst;have hng:=hM.ne;have hNl:=World.block_lt_of_cell? wx ⟨N,0,none⟩ cN0;clear hM hd ha hst;generalize hQ:bodyPost Tryz.prog Tryz.f51 (StandPost w B r gb o heads ⟨depth,kind,name,num,op,at_⟩)=Q;have HQ:=Lib.hid hQ;clear hQ;rw[zft];refine wp_seq ?_;generalize hY:z6.wp Tryz.prog Q=Y;have HY:=Lib.hid hY;clear hY;simp only[yh,zG,st0,seqL,seqR,Tryz.f51,Option.getD_some];go_wp2_with fail;go_loopg [168] o1.length (fun g x4 wq=>∃m:Nat,m<=o1.length/\g=m/\ShM wq B r gb (o1.take m) h'/\Ap r gb wx wq/\∀(j:Nat) (x:Hold),m<=j->o1[j]? =some x->depth<=x.depth)
 case atStart=>
  refine⟨o1.length,Nat.le_refl _,rfl,by rw[List.take_length];exact HM.out,Ap.refl _,fun j x hj hx=>?_⟩
  have:=(List.getElem?_eq_some_iff.1 hx).1
  omega
 case round=>
  obtain⟨m,hm,hg,hMq,hAq,hbe⟩:=hrel
  have hlen:(o1.take m).length=m:=by simp;omega
  have c0:=hMq.c0;rw[hlen] at c0;have dN0:=(hAq.cell hNl hNr hNg).trans cN0;have dN1:=(hAq.cell hNl hNr hNg).trans cN1;have HMQ:=Lib.hid hMq;have HAQ:=Lib.hid hAq;have HBE:=Lib.hid hbe;have HG:=Lib.hid hg;clear hMq hAq hbe hg;cases m with
  |zero=>
   clear hlen;go_wp2_with fail;go_quiet (fail)
   go_wp2_with fail;have hps:popF depth o1=o1.take 0:=zaj (Nat.zero_le _) HBE.out (.inl rfl);rw[<-HY.out,<-HQ.out];exact stand_app (m:=0) _ ⟨rfl,rfl,by simp[Act.eval]⟩ (HMQ.out.drewN nq) dN0 dN1 hNr hNg (by simp) (by omega) (by rw[<-hps];exact HS.out) (HA.out.trans (HAQ.out.drewN nq))
  |succ i=>
   clear hlen;have hil:i<o1.length:=by omega
   obtain⟨x,hx⟩:∃x,o1[i]? =some x:=⟨_,List.getElem?_eq_getElem hil⟩
   have hxt:(o1.take (i+1))[i]? =some x:=by rw[List.getElem?_take,if_pos (by omega)];exact hx
   have q1:=HMQ.out.depth hxt;have f0:=HMQ.out.fs 0;have hxd:=HD.out i x hx;have hp1:(0:Int)<((i+1:Nat):Int):=by omega
   have hp2:(0:Int)<=(i:Int):=by omega
   have hp3:(i:Int)<((i+1:Nat):Int):=by omega
   rw[hxd] at q1;have HX:=Lib.hid hx;have HXD:=Lib.hid hxd;clear hx hxt hxd;by_cases hdx:depth<=(i:Int)+1
   ·have hdd:decide (depth<=(i:Int)+1)=true:=by simp[hdx]
    have HDX:=Lib.hid hdx;clear hdx;go_wp2_with fail;go_quiet (fail)
    go_wp2_with fail;have gW:wr.drewN nq=wr.drewN nq:=rfl;have HMW:=Lib.hid (HMQ.out.drewN nq);have HAW:=Lib.hid (HAQ.out.drewN nq);have cW0:(wr.drewN nq).cell? ⟨r,0,none⟩=some (.slice (some ⟨gb,0,none⟩) (i+1) 26):=c0;have fW0:(wr.drewN nq).frozen? ⟨r,0,none⟩=false:=f0;clear gW c0 f0 q1 dN0 dN1 HMQ HAQ;generalize wr.drewN nq=W at HMW HAW cW0 fW0⊢;go_region
    go_wp2_with fail;go_roundg i
    case measure=>have:=HG.out;omega
    case rel=>
     have hlm:(o1.take (i+1)).length=i+1:=by simp;omega
     have h1:=HMW.out.trunc (m:=i) (by omega)
     rw[List.take_take,show min i (i+1)=i from by omega] at h1
     refine⟨i,by omega,rfl,h1.kept fun _ _=>rfl,((HAW.out.set (a:=⟨r,0,none⟩) (.inl rfl) _).drewN 1),fun j y hj hy=>?_⟩
     by_cases e:j=i
     ·subst e;rw[HX.out] at hy;cases hy;have h3:=HDX.out;have h4:=HXD.out;omega
     ·exact HBE.out j y (by omega) hy
   ·have hdd:decide (depth<=(i:Int)+1)=false:=by simp[hdx]
    have HDX:=Lib.hid hdx;clear hdx;go_wp2_with fail;go_quiet (fail)
    go_wp2_with fail;have hps:popF depth o1=o1.take (i+1):=zaj hm HBE.out (.inr ⟨x,by simpa using HX.out,by have:=HDX.out;have:=HXD.out;omega⟩)
    rw[<-HY.out,<-HQ.out];exact stand_app (m:=i+1) _ ⟨rfl,rfl,by simp[Act.eval]⟩ (HMQ.out.drewN nq) dN0 dN1 hNr hNg (by simp;omega) (by omega) (by rw[<-hps];exact HS.out) (HA.out.trans (HAQ.out.drewN nq))
theorem stand_tail{B r gb N:Nat}{o o1:List Hold}{heads:Bool}{depth kind:Int}{name:ByteArray}{num op at_:Int}{w wx:World}(hM:ShM wx B r gb o1 heads)(cN0:wx.cell? ⟨N,0,none⟩=some (.int .i64 depth))(cN1:wx.cell? ⟨N,1,none⟩=some (.int .i64 kind))(hNr:N≠r)(hNg:N≠gb)(hd:∀(j:Nat) (x:Hold),o1[j]? =some x->x.depth=j+1)(ho:o1.length<=24)
 (ht:takeF o heads ⟨depth,kind,name,num,op,at_⟩=some o1) (hf:fieldsB ⟨depth,kind,name,num,op,at_⟩=true) (ha:Ap r gb w wx) (u1 u2 u5 u6 u7 u8 u9 u10 u11 u12 u13 u14 u15 u16 u17 u18 u19 u20 u21 u22 u23 u24 u25 u26 u27 u28 u29 u30 u31 u32 u33 u34 u35 u36 u37 u38 u39 u40 u41 u42 u43 u44 u45 u46 u47 u48 u49 u50 u51 u52 u53 u54 u55 u56 u57 u58 u59 u60 u61 u62 u63 u64 u65 u66 u67 u68 u69 u70 u71 u72 u73 u74 u75 u76 u77 u78 u79 u80 u81 u82 u83 u84 u85 u86 u87 u88 u89 u90 u91 u92 u93 u94 u95 u96 u97 u98 u99 u100 u101 u102 u103 u104 u105 u106 u107 u108 u109 u110 u111 u112 u113 u114 u115 u116 u117 u118 u119 u120 u121 u122 u123 u124 u125 u126 u127 u128 u129 u130 u131 u132 u133 u134 u135 u136 u137 u138 u139 u140 u141 u142 u143 u144 u145 u146 u147 u148 u149 u150 u151 u152 u153 u154 u155 u156 u157 u158 u159 u160 u161 u162 u163 u164 u165 u166 u167 u168 u169 u170 u171 u172 u173 u174 u175 u176 u177 u178 u179 u180 u181 u182 u183 u184 u185 u186 u187 u188 u189 u190 u191 u192 u193 u194 u195 u196 u197 u198 u199 u200 u201 u202 u203 u204 u205 u206 u207 u208 u209 u210 u211 u212 u213 u214 u215 u216 u217 u218 u219 u220 u221 u222:Value):
 zG.wp Tryz.prog (bodyPost Tryz.prog Tryz.f51 (StandPost w B r gb o heads ⟨depth,kind,name,num,op,at_⟩)) ⟨(.pointer (some ⟨r,0,none⟩)::u1::u2:: .pointer (some ⟨N,0,none⟩):: .bool false::u5::u6::u7::u8::u9::u10::u11::u12::u13::u14::u15::u16::u17::u18::u19::u20::u21::u22::u23::u24::u25::u26::u27::u28::u29::u30::u31::u32::u33::u34::u35::u36::u37::u38::u39::u40::u41::u42::u43::u44::u45::u46::u47::u48::u49::u50::u51::u52::u53::u54::u55::u56::u57::u58::u59::u60::u61::u62::u63::u64::u65::u66::u67::u68::u69::u70::u71::u72::u73::u74::u75::u76::u77::u78::u79::u80::u81::u82::u83::u84::u85::u86::u87::u88::u89::u90::u91::u92::u93::u94::u95::u96::u97::u98::u99::u100::u101::u102::u103::u104::u105::u106::u107::u108::u109::u110::u111::u112::u113::u114::u115::u116::u117::u118::u119::u120::u121::u122::u123::u124::u125::u126::u127::u128::u129::u130::u131::u132::u133::u134::u135::u136::u137::u138::u139::u140::u141::u142::u143::u144::u145::u146::u147::u148::u149::u150::u151::u152::u153::u154::u155::u156::u157::u158::u159::u160::u161::u162::u163::u164::u165::u166::u167::u168::u169::u170::u171::u172::u173::u174::u175::u176::u177::u178::u179::u180::u181::u182::u183::u184::u185::u186::u187::u188::u189::u190::u191::u192::u193::u194::u195::u196::u197::u198::u199::u200::u201::u202::u203::u204::u205::u206::u207::u208::u209::u210::u211::u212::u213::u214::u215::u216::u217::u218::u219::u220::u221::u222::[]).toArray,[]⟩ wx:=by
 have HM:=Lib.hid hM;have HD:=Lib.hid hd;have HA:=Lib.hid ha;have hst:xg o heads ⟨depth,kind,name,num,op,at_⟩=some (popF depth o1++[⟨kind,depth,zC kind,0⟩],if kind=0\/kind=1 then heads else false):=by
  unfold xg;rw[if_neg (by simp[hf]),ht]
 have cs1:=hM.c1;have fs1:=hM.fs 1;clear hM hd ha ht hf;generalize hQ:bodyPost Tryz.prog Tryz.f51 (StandPost w B r gb o heads ⟨depth,kind,name,num,op,at_⟩)=Q;have HQ:=Lib.hid hQ;clear hQ;rw[zdC];refine wp_seq ?_;generalize hY:yh.wp Tryz.prog Q=Y;have HY:=Lib.hid hY;clear hY;simp only[zG,st0,seqL,seqR,Tryz.f51,Option.getD_some];by_cases k0:kind=0
 ·subst k0;rw[if_pos (.inl rfl)] at hst;have HS:=Lib.hid hst;clear hst;go_wp2_with fail;rw[<-HY.out,<-HQ.out];exact stand_pop HM.out cN0 cN1 hNr hNg HD.out ho HS.out HA.out _ _ _ _ _ _ _ _ _ _ _ _ _ _ _ _ _ _ _ _ _ _ _ _ _ _ _ _ _ _ _ _ _ _ _ _ _ _ _ _ _ _ _ _ _ _ _ _ _ _ _ _ _ _ _ _ _ _ _ _ _ _ _ _ _ _ _ _ _ _ _ _ _ _ _ _ _ _ _ _ _ _ _ _ _ _ _ _ _ _ _ _ _ _ _ _ _ _ _ _ _ _ _ _ _ _ _ _ _ _ _ _ _ _ _ _ _ _ _ _ _ _ _ _ _ _ _ _ _ _ _ _ _ _ _ _ _ _ _ _ _ _ _ _ _ _ _ _ _ _ _ _ _ _ _ _ _ _ _ _ _ _ _ _ _ _ _ _ _ _ _ _ _ _ _ _ _ _ _ _ _ _ _ _ _ _ _ _ _ _ _ _ _ _ _ _ _ _ _ _ _ _ _ _ _ _ _ _ _ _ _ _ _ _ _ _ _ _ _ _
 ·have k0b:(kind==0)=false:=by simp[k0]
  have k0c:(kind !=0)=true:=by simp[k0]
  by_cases k1:kind=1
  ·subst k1;rw[if_pos (.inr rfl)] at hst;have HS:=Lib.hid hst;clear hst;go_wp2_with fail;rw[<-HY.out,<-HQ.out];exact stand_pop HM.out cN0 cN1 hNr hNg HD.out ho HS.out HA.out _ _ _ _ _ _ _ _ _ _ _ _ _ _ _ _ _ _ _ _ _ _ _ _ _ _ _ _ _ _ _ _ _ _ _ _ _ _ _ _ _ _ _ _ _ _ _ _ _ _ _ _ _ _ _ _ _ _ _ _ _ _ _ _ _ _ _ _ _ _ _ _ _ _ _ _ _ _ _ _ _ _ _ _ _ _ _ _ _ _ _ _ _ _ _ _ _ _ _ _ _ _ _ _ _ _ _ _ _ _ _ _ _ _ _ _ _ _ _ _ _ _ _ _ _ _ _ _ _ _ _ _ _ _ _ _ _ _ _ _ _ _ _ _ _ _ _ _ _ _ _ _ _ _ _ _ _ _ _ _ _ _ _ _ _ _ _ _ _ _ _ _ _ _ _ _ _ _ _ _ _ _ _ _ _ _ _ _ _ _ _ _ _ _ _ _ _ _ _ _ _ _ _ _ _ _ _ _ _ _ _ _ _ _ _ _ _ _ _ _
  ·have k1b:(kind==1)=false:=by simp[k1]
   have k1c:(kind !=1)=true:=by simp[k1]
   rw[if_neg (by omega)] at hst
   have HS:=Lib.hid hst;clear hst k0 k1;go_wp2_with fail;rw[<-HY.out,<-HQ.out];have c0':(wx.setCell ⟨r,1,none⟩ (.bool false)).cell? ⟨N,0,none⟩=some (.int .i64 depth):=by simp[go_sem,cN0,hNr]
   have c1':(wx.setCell ⟨r,1,none⟩ (.bool false)).cell? ⟨N,1,none⟩=some (.int .i64 kind):=by simp[go_sem,cN1,hNr]
   exact stand_pop (HM.out.setHeads false) c0' c1' hNr hNg HD.out ho HS.out (HA.out.set (a:=⟨r,1,none⟩) (.inl rfl) _) _ _ _ _ _ _ _ _ _ _ _ _ _ _ _ _ _ _ _ _ _ _ _ _ _ _ _ _ _ _ _ _ _ _ _ _ _ _ _ _ _ _ _ _ _ _ _ _ _ _ _ _ _ _ _ _ _ _ _ _ _ _ _ _ _ _ _ _ _ _ _ _ _ _ _ _ _ _ _ _ _ _ _ _ _ _ _ _ _ _ _ _ _ _ _ _ _ _ _ _ _ _ _ _ _ _ _ _ _ _ _ _ _ _ _ _ _ _ _ _ _ _ _ _ _ _ _ _ _ _ _ _ _ _ _ _ _ _ _ _ _ _ _ _ _ _ _ _ _ _ _ _ _ _ _ _ _ _ _ _ _ _ _ _ _ _ _ _ _ _ _ _ _ _ _ _ _ _ _ _ _ _ _ _ _ _ _ _ _ _ _ _ _ _ _ _ _ _ _ _ _ _ _ _ _ _ _ _ _ _ _ _ _ _ _ _ _ _ _ _
theorem stand_refuse{w w':World}{B r gb:Nat}{o:List Hold}{heads:Bool}{n:Nd}(hn:takeF o heads n=none)(ha:Ap r gb w w'):StandPost w B r gb o heads n (.returned (.bool false)) w':=by
 refine⟨ha,?_⟩;have:xg o heads n=none:=by
  unfold xg;split
  ·rfl
  ·rw[hn]
 rw[this]
theorem set_depth{o:List Hold}(hd:∀(j:Nat) (x:Hold),o[j]? =some x->x.depth=j+1){u:Nat}{g g':Hold}(hg:o[u]? =some g)(he:g'.depth=g.depth):∀(j:Nat) (x:Hold),(o.set u g')[j]? =some x->x.depth=j+1:=by
 intro j x hx;rw[List.getElem?_set] at hx
 split at hx
 ·rename_i e
  split at hx
  ·cases hx;subst e;rw[he];exact hd u g hg
  ·cases hx
 ·exact hd j x hx
theorem res51(t:Array Value)(b:Bool)(h:t.getD 4 undef= .bool b)(w:World):(results Tryz.f51 t).run Tryz.prog w= .ok (.bool b) w:=by
 have hr:Tryz.f51.results= #[.tmp 4]:=rfl;rw[Array.getD_eq_getD_getElem?] at h;simp[results,hr,h]
noncomputable def st3:Code:=seqL (seqR (seqR st0))
theorem ziz:st0= .seq (seqL st0) (.seq (seqL (seqR st0)) (.seq st3 zG)):=rfl
def F3(r N:Nat)(depth kind:Int)(name:ByteArray)(num op at_:Int):Act:=⟨((.pointer (some ⟨r,0,none⟩))::(.agg #[.int .i64 depth, .int .i64 kind, .string name, .int .i64 num, .int .i64 op, .int .i64 at_])::undef::(.pointer (some ⟨N,0,none⟩))::(.bool false)::undef::undef::undef::undef::(.agg #[.int .i64 depth, .int .i64 kind, .string name, .int .i64 num, .int .i64 op, .int .i64 at_])::(.bool true)::(.bool false)::undef::undef::undef::undef::undef::undef::undef::undef::undef::undef::undef::undef::undef::undef::undef::undef::undef::undef::undef::undef::undef::undef::undef::undef::undef::undef::undef::undef::undef::undef::undef::undef::undef::undef::undef::undef::undef::undef::undef::undef::undef::undef::undef::undef::undef::undef::undef::undef::undef::undef::undef::undef::undef::undef::undef::undef::undef::undef::undef::undef::undef::undef::undef::undef::undef::undef::undef::undef::undef::undef::undef::undef::undef::undef::undef::undef::undef::undef::undef::undef::undef::undef::undef::undef::undef::undef::undef::undef::undef::undef::undef::undef::undef::undef::undef::undef::undef::undef::undef::undef::undef::undef::undef::undef::undef::undef::undef::undef::undef::undef::undef::undef::undef::undef::undef::undef::undef::undef::undef::undef::undef::undef::undef::undef::undef::undef::undef::undef::undef::undef::undef::undef::undef::undef::undef::undef::undef::undef::undef::undef::undef::undef::undef::undef::undef::undef::undef::undef::undef::undef::undef::undef::undef::undef::undef::undef::undef::undef::undef::undef::undef::undef::undef::undef::undef::undef::undef::undef::undef::undef::undef::undef::undef::undef::undef::undef::undef::undef::undef::undef::undef::undef::undef::undef::undef::undef::undef::undef::undef::undef::undef::undef::undef::undef::undef::undef::undef::undef::undef::undef::undef::undef::undef::undef::undef::undef::undef::undef::undef::undef::undef::[]).toArray,[]⟩
structure Hd (w w2:World) (B r gb N:Nat) (o:List Hold) (heads:Bool) (depth kind:Int):Prop where
 ap:Ap r gb w w2
 shm:ShM w2 B r gb o heads
 c0:w2.cell? ⟨N,0,none⟩=some (.int .i64 depth)
 c1:w2.cell? ⟨N,1,none⟩=some (.int .i64 kind)
 nr:N≠r
 ng:N≠gb
theorem zck{B r gb:Nat}{o:List Hold}{heads:Bool}(depth kind:Int)(name:ByteArray)(num op at_:Int)(hs:name.size<=140737488355328)(w:World)(h:ShM w B r gb o heads)
 (hk:fieldsB ⟨depth,kind,name,num,op,at_⟩=true->∀w2 N,Hd w w2 B r gb N o heads depth kind->st3.wp Tryz.prog (Exit.then (zG.wp Tryz.prog (bodyPost Tryz.prog Tryz.f51 (StandPost w B r gb o heads ⟨depth,kind,name,num,op,at_⟩))) (bodyPost Tryz.prog Tryz.f51 (StandPost w B r gb o heads ⟨depth,kind,name,num,op,at_⟩))) (F3 r N depth kind name num op at_) w2):
 Calls Tryz.prog 51 #[.pointer (some ⟨r,0,none⟩), .agg #[.int .i64 depth, .int .i64 kind, .string name, .int .i64 num, .int .i64 op, .int .i64 at_]] w (StandPost w B r gb o heads ⟨depth,kind,name,num,op,at_⟩):=by
 have HM:=Lib.hid h;have hf:=zcT ⟨depth,kind,name,num,op,at_⟩ hs;simp only[Nd.cells] at hf;have hlt:=h.s.lt;have hgt:gb<w.heap.size:=by obtain⟨F,h1,_⟩:=h.row;exact h1.lt
 cases hfb:fieldsB ⟨depth,kind,name,num,op,at_⟩ with
 |false=>
  have hst:xg o heads ⟨depth,kind,name,num,op,at_⟩=none:=by simp[xg,hfb]
  rw[hfb] at hf;clear hfb h hk hlt hgt;go_enter Tryz.func51,Tryz.ntmps51;go_wp2_with (go_at_call 95;refine(hf _).mono ?_;rintro e w1 ⟨rfl,k1⟩);go_ret;exact⟨(Ap.of_kin ((Kin.refl w).alloc _)).trans (Ap.of_kin k1),by rw[hst];rfl⟩
 |true=>
  rw[hfb] at hf;have HK:=Lib.hid (hk hfb);clear hfb h hk;go_enter Tryz.func51,Tryz.ntmps51;generalize hQ:bodyPost Tryz.prog Tryz.f51 (StandPost w B r gb o heads ⟨depth,kind,name,num,op,at_⟩)=Q at HK⊢;have HQ:=Lib.hid hQ;clear hQ
  change Code.wp Tryz.prog st0 Q _ _;rw[ziz];refine wp_seq ?_;generalize hY:Code.wp Tryz.prog ((seqL (seqR st0)).seq (st3.seq zG)) Q=Y;have HY:=Lib.hid hY;clear hY;simp only[st0,seqL,Tryz.f51,Option.getD_some];go_wp2;rw[<-HY.out];refine wp_seq ?_;have hx:Code.wp Tryz.prog (st3.seq zG) Q=Code.wp Tryz.prog (st3.seq zG) Q:=rfl;generalize hZ:Code.wp Tryz.prog (st3.seq zG) Q=Z;have HZ:=Lib.hid hZ;clear hZ hx;simp only[st0,seqL,seqR,Tryz.f51,Option.getD_some];have k0:=(Kin.refl w).alloc (Obj.cells #[Value.int IntKind.i64 depth,Value.int IntKind.i64 kind,Value.string name,Value.int IntKind.i64 num,Value.int IntKind.i64 op,Value.int IntKind.i64 at_] 50);have hS:=xj w 50 (.int .i64 depth) (.int .i64 kind) (.string name) (.int .i64 num) (.int .i64 op) (.int .i64 at_);go_wp2_with (go_at_call 95;refine(hf _).mono ?_;rintro e w1 ⟨rfl,k1⟩);rw[<-HZ.out];refine wp_seq ?_;have k2:=k0.trans k1;exact HK.out w1 w.heap.size ⟨Ap.of_kin k2,HM.out.kin k2,(k1.cell (by simp)).trans hS.c0,(k1.cell (by simp)).trans hS.c1,by omega,by omega⟩
theorem za3{B r gb N:Nat}{o:List Hold}{heads:Bool}{st:List Opn}{begun:Bool}{depth kind:Int}{name:ByteArray}{num op at_:Int}{w w2:World}(hI:ShI o heads st begun)(ho:o.length<=24)(hf:fieldsB ⟨depth,kind,name,num,op,at_⟩=true)(hH:Hd w w2 B r gb N o heads depth kind){u:Nat}(hwi:xf o=some u):st3.wp Tryz.prog (Exit.then (zG.wp Tryz.prog (bodyPost Tryz.prog Tryz.f51 (StandPost w B r gb o heads ⟨depth,kind,name,num,op,at_⟩))) (bodyPost Tryz.prog Tryz.f51 (StandPost w B r gb o heads ⟨depth,kind,name,num,op,at_⟩))) (F3 r N depth kind name num op at_) w2:=by
 have H:=Lib.hid hH;have HI:=Lib.hid hI;have HF:=Lib.hid hf;have cN0:=hH.c0;have cN1:=hH.c1;have hNr:=hH.nr;have hNg:=hH.ng;have hng:=hH.shm.ne;have hw52:=j5 w2 hH.shm;clear hH hI hf;unfold F3;generalize hQ:bodyPost Tryz.prog Tryz.f51 (StandPost w B r gb o heads ⟨depth,kind,name,num,op,at_⟩)=Q;have HQ:=Lib.hid hQ;clear hQ;generalize hY:zG.wp Tryz.prog Q=Y;have HY:=Lib.hid hY;clear hY;obtain⟨⟨g,hg,hgw⟩,hlater⟩:=yx hwi
 clear hlater;rw[hwi] at hw52;have e1:ixV (some u)=(u:Int):=rfl;rw[e1] at hw52;clear e1;have c0:=H.out.shm.c0;have hgd:=HI.out.depth u g hg;have hgs:=HI.out.small u g hg;have hul:=(List.getElem?_eq_some_iff.1 hg).1;have d1:=H.out.shm.depth hg;have b1:=H.out.shm.blocks hg;obtain⟨v,v1,hva⟩:=H.out.shm.wants hg
 have f2:=H.out.shm.fr (u*4+2);have f3:=H.out.shm.fr (u*4+3);rw[hgd] at d1;obtain⟨x,rest,hxr⟩:∃x rest,g.wants=x::rest:=by
  cases hgw2:g.wants with
  |nil=>rw[hgw2] at hgw;cases hgw
  |cons x rest=>exact⟨x,rest,rfl⟩
 rw[hxr] at hva;obtain⟨gw,off,cap,rfl,hcap,x1,hwt,hwt2⟩:=hva.tail
 have HWT:=Lib.hid hwt;have HWT2:=Lib.hid hwt2;have hu0:(0:Int)<=u:=by omega
 have hr1:(0:Int)<((rest.length+1:Nat):Int):=by omega
 have HTK:Hid (takeF o heads ⟨depth,kind,name,num,op,at_⟩=if depth≠(u:Int)+1+1\/(x=0/\ze kind=false)\/(x=1/\kind≠9) then none else some (o.set u {g with wants:=rest,blocks:=if x=1 then g.blocks+1 else g.blocks})):=by
  show _=_;unfold takeF;simp only[hwi,hg,hxr,hgd]
 have HG:=Lib.hid hg;clear hva hwt hwt2 hgw hwi hxr hgd hg;simp only[st3,st0,seqL,seqR,Tryz.f51,Option.getD_some];by_cases hd:depth=(u:Int)+1+1
 ·have hd1:(depth==(u:Int)+1+1)=true:=by simp[hd]
  have hd2:(depth !=(u:Int)+1+1)=false:=by simp[hd]
  have hdd:¬depth≠(u:Int)+1+1:=by simp[hd]
  clear hd;by_cases hx0:x=0
  ·subst hx0;cases hke:ze kind with
   |false=>
    have hn:takeF o heads ⟨depth,kind,name,num,op,at_⟩=none:=by rw[HTK.out,if_pos (.inr (.inl ⟨rfl,hke⟩))]
    have HN:=Lib.hid hn;clear hn hdd;go_wp2_with (go_at_call 52;refine hw52.mono ?_;rintro e w3 ⟨rfl,rfl⟩);go_quiet ((go_at_call 96;exact Calls.quiet_of_same (isExpr_any _ _)))
    go_wp2;rw[<-HQ.out];exact⟨rfl,_,res51 _ false rfl _,stand_refuse HN.out (H.out.ap.trans ((Ap.refl _).drewN _))⟩
   |true=>
    have hn:takeF o heads ⟨depth,kind,name,num,op,at_⟩=some (o.set u {g with wants:=rest}):=by
     rw[HTK.out,if_neg (by simp[hke];omega)];simp
    have HN:=Lib.hid hn;clear hn hdd;go_wp2_with (go_at_call 52;refine hw52.mono ?_;rintro e w3 ⟨rfl,rfl⟩);go_quiet ((go_at_call 96;exact Calls.quiet_of_same (isExpr_any _ _)))
    go_wp2;all_goals rw[<-HY.out,<-HQ.out]
    all_goals refine stand_tail ((H.out.shm.drewN nq).setWants (l:=rest) HG.out (zT.kept ?_ fun _ _ _ _=>rfl)) (by simp[go_sem,cN0,hNg]) (by simp[go_sem,cN1,hNg]) H.out.nr H.out.ng (set_depth (g':={g with wants:=rest}) HI.out.depth HG.out rfl) ((by simp;omega)) HN.out HF.out (H.out.ap.trans (((Ap.refl _).drewN nq).set (a:=⟨gb,_,none⟩) (.inr rfl) _)) _ _ _ _ _ _ _ _ _ _ _ _ _ _ _ _ _ _ _ _ _ _ _ _ _ _ _ _ _ _ _ _ _ _ _ _ _ _ _ _ _ _ _ _ _ _ _ _ _ _ _ _ _ _ _ _ _ _ _ _ _ _ _ _ _ _ _ _ _ _ _ _ _ _ _ _ _ _ _ _ _ _ _ _ _ _ _ _ _ _ _ _ _ _ _ _ _ _ _ _ _ _ _ _ _ _ _ _ _ _ _ _ _ _ _ _ _ _ _ _ _ _ _ _ _ _ _ _ _ _ _ _ _ _ _ _ _ _ _ _ _ _ _ _ _ _ _ _ _ _ _ _ _ _ _ _ _ _ _ _ _ _ _ _ _ _ _ _ _ _ _ _ _ _ _ _ _ _ _ _ _ _ _ _ _ _ _ _ _ _ _ _ _ _ _ _ _ _ _ _ _ _ _ _ _ _ _ _ _ _ _ _ _ _ _ _ _ _ _ _
    all_goals first|exact HWT.out|exact HWT2.out (by omega)
  ·have hx0b:(x==0)=false:=by simp[hx0]
   by_cases hx1:x=1
   ·subst hx1;by_cases hk9:kind=9
    ·have hk1:(kind==9)=true:=by simp[hk9]
     have hk2:(kind !=9)=false:=by simp[hk9]
     have hn:takeF o heads ⟨depth,kind,name,num,op,at_⟩=some ((o.set u {g with wants:=rest}).set u { {g with wants:=rest} with blocks:=g.blocks+1}):=by
      rw[HTK.out,if_neg (by simp[hk9];omega)];simp
     have HN:=Lib.hid hn;clear hn hdd hx0 hk9;go_wp2_with (go_at_call 52;refine hw52.mono ?_;rintro e w3 ⟨rfl,rfl⟩);go_quiet ((go_at_call 96;exact Calls.quiet_of_same (isExpr_any _ _)))
     go_wp2;all_goals rw[<-HY.out,<-HQ.out]
     all_goals refine stand_tail (((H.out.shm.drewN nq).setWants (l:=rest) HG.out (zT.kept ?_ fun _ _ _ _=>rfl)).setBlocks (g:={g with wants:=rest}) (List.getElem?_set_self hul) (g.blocks+1)) (by simp[go_sem,cN0,hNg]) (by simp[go_sem,cN1,hNg]) H.out.nr H.out.ng (set_depth (u:=u) (g:={g with wants:=rest}) (set_depth (g':={g with wants:=rest}) HI.out.depth HG.out rfl) (List.getElem?_set_self hul) rfl) ((by simp;omega)) HN.out HF.out (H.out.ap.trans ((((Ap.refl _).drewN nq).set (a:=⟨gb,u*4+2,none⟩) (.inr rfl) _).set (a:=⟨gb,u*4+3,none⟩) (.inr rfl) _)) _ _ _ _ _ _ _ _ _ _ _ _ _ _ _ _ _ _ _ _ _ _ _ _ _ _ _ _ _ _ _ _ _ _ _ _ _ _ _ _ _ _ _ _ _ _ _ _ _ _ _ _ _ _ _ _ _ _ _ _ _ _ _ _ _ _ _ _ _ _ _ _ _ _ _ _ _ _ _ _ _ _ _ _ _ _ _ _ _ _ _ _ _ _ _ _ _ _ _ _ _ _ _ _ _ _ _ _ _ _ _ _ _ _ _ _ _ _ _ _ _ _ _ _ _ _ _ _ _ _ _ _ _ _ _ _ _ _ _ _ _ _ _ _ _ _ _ _ _ _ _ _ _ _ _ _ _ _ _ _ _ _ _ _ _ _ _ _ _ _ _ _ _ _ _ _ _ _ _ _ _ _ _ _ _ _ _ _ _ _ _ _ _ _ _ _ _ _ _ _ _ _ _ _ _ _ _ _ _ _ _ _ _ _ _ _ _ _ _ _
     all_goals first|exact HWT.out|exact HWT2.out (by omega)
    ·have hk1:(kind==9)=false:=by simp[hk9]
     have hk2:(kind !=9)=true:=by simp[hk9]
     have hn:takeF o heads ⟨depth,kind,name,num,op,at_⟩=none:=by rw[HTK.out,if_pos (.inr (.inr ⟨rfl,hk9⟩))]
     have HN:=Lib.hid hn;clear hn hdd hx0 hk9;go_wp2_with (go_at_call 52;refine hw52.mono ?_;rintro e w3 ⟨rfl,rfl⟩);go_quiet ((go_at_call 96;exact Calls.quiet_of_same (isExpr_any _ _)))
     go_wp2;rw[<-HQ.out];exact⟨rfl,_,res51 _ false rfl _,stand_refuse HN.out (H.out.ap.trans ((Ap.refl _).drewN _))⟩
   ·have hx1b:(x==1)=false:=by simp[hx1]
    have hn:takeF o heads ⟨depth,kind,name,num,op,at_⟩=some (o.set u {g with wants:=rest}):=by
     rw[HTK.out,if_neg (by simp[hx0,hx1];omega)];simp[hx1]
    have HN:=Lib.hid hn;clear hn hdd hx0 hx1;go_wp2_with (go_at_call 52;refine hw52.mono ?_;rintro e w3 ⟨rfl,rfl⟩);go_quiet ((go_at_call 96;exact Calls.quiet_of_same (isExpr_any _ _)))
    go_wp2;all_goals rw[<-HY.out,<-HQ.out]
    all_goals refine stand_tail ((H.out.shm.drewN nq).setWants (l:=rest) HG.out (zT.kept ?_ fun _ _ _ _=>rfl)) (by simp[go_sem,cN0,hNg]) (by simp[go_sem,cN1,hNg]) H.out.nr H.out.ng (set_depth (g':={g with wants:=rest}) HI.out.depth HG.out rfl) ((by simp;omega)) HN.out HF.out (H.out.ap.trans (((Ap.refl _).drewN nq).set (a:=⟨gb,_,none⟩) (.inr rfl) _)) _ _ _ _ _ _ _ _ _ _ _ _ _ _ _ _ _ _ _ _ _ _ _ _ _ _ _ _ _ _ _ _ _ _ _ _ _ _ _ _ _ _ _ _ _ _ _ _ _ _ _ _ _ _ _ _ _ _ _ _ _ _ _ _ _ _ _ _ _ _ _ _ _ _ _ _ _ _ _ _ _ _ _ _ _ _ _ _ _ _ _ _ _ _ _ _ _ _ _ _ _ _ _ _ _ _ _ _ _ _ _ _ _ _ _ _ _ _ _ _ _ _ _ _ _ _ _ _ _ _ _ _ _ _ _ _ _ _ _ _ _ _ _ _ _ _ _ _ _ _ _ _ _ _ _ _ _ _ _ _ _ _ _ _ _ _ _ _ _ _ _ _ _ _ _ _ _ _ _ _ _ _ _ _ _ _ _ _ _ _ _ _ _ _ _ _ _ _ _ _ _ _ _ _ _ _ _ _ _ _ _ _ _ _ _ _ _ _ _ _
    all_goals first|exact HWT.out|exact HWT2.out (by omega)
 ·have hd1:(depth==(u:Int)+1+1)=false:=by simp[hd]
  have hd2:(depth !=(u:Int)+1+1)=true:=by simp[hd]
  have hn:takeF o heads ⟨depth,kind,name,num,op,at_⟩=none:=by rw[HTK.out,if_pos (.inl hd)]
  have HN:=Lib.hid hn;clear hd hn;go_wp2_with (go_at_call 52;refine hw52.mono ?_;rintro e w3 ⟨rfl,rfl⟩);go_quiet ((go_at_call 96;exact Calls.quiet_of_same (isExpr_any _ _)))
  go_wp2;rw[<-HQ.out];exact⟨rfl,_,res51 _ false rfl _,stand_refuse HN.out (H.out.ap.trans ((Ap.refl _).drewN _))⟩
def takeN(o:List Hold)(heads:Bool)(n:Nd)(hx:Option Nat):Option (List Hold):=
 if n.kind=0\/n.kind=1 then (if n.depth≠1\/heads=false then none else some o)
 else if zx n.kind then
  if n.depth=1 then some o
  else match hx with
   |some u=>match o[u]? with
    |some h=>if h.kind=9 then some o else none
    |none=>none
   |none=>none
 else if n.kind=9 then
  match hx with
  |some u=>match o[u]? with
   |some h=>if h.kind=7/\h.blocks=1 then some (o.set u {h with blocks:=h.blocks+1}) else none
   |none=>none
  |none=>none
 else none
theorem zch{o:List Hold}(h:xf o=none)(heads:Bool)(n:Nd):takeF o heads n=takeN o heads n (heldIx o (IntKind.wrap .i64 (n.depth-1))):=by
 unfold takeF takeN;simp only[h];first|done|rfl
theorem zcj{B r gb N:Nat}{o:List Hold}{heads:Bool}{st:List Opn}{begun:Bool}{depth kind:Int}{name:ByteArray}{num op at_:Int}{w w2:World}(hI:ShI o heads st begun)(ho:o.length<=24)(hf:fieldsB ⟨depth,kind,name,num,op,at_⟩=true)(hH:Hd w w2 B r gb N o heads depth kind)(hwi:xf o=none):st3.wp Tryz.prog (Exit.then (zG.wp Tryz.prog (bodyPost Tryz.prog Tryz.f51 (StandPost w B r gb o heads ⟨depth,kind,name,num,op,at_⟩))) (bodyPost Tryz.prog Tryz.f51 (StandPost w B r gb o heads ⟨depth,kind,name,num,op,at_⟩))) (F3 r N depth kind name num op at_) w2:=by
 have H:=Lib.hid hH;have HI:=Lib.hid hI;have HF:=Lib.hid hf;have cN0:=hH.c0;have cN1:=hH.c1;have hNr:=hH.nr;have hNg:=hH.ng;have hng:=hH.shm.ne;have hw52:=j5 w2 hH.shm;clear hH hI hf;unfold F3;generalize hQ:bodyPost Tryz.prog Tryz.f51 (StandPost w B r gb o heads ⟨depth,kind,name,num,op,at_⟩)=Q;have HQ:=Lib.hid hQ;clear hQ;generalize hY:zG.wp Tryz.prog Q=Y;have HY:=Lib.hid hY;clear hY;simp only[st3,st0,seqL,seqR,Tryz.f51,Option.getD_some];have e0:ixV none= -1:=rfl;rw[hwi,e0] at hw52;clear e0;have c0:=H.out.shm.c0;have c1:=H.out.shm.c1;have hH:∀w',ShM w' B r gb o heads->Calls Tryz.prog 97 #[.pointer (some ⟨r,0,none⟩), .int .i64 (wrap64 (depth-1))] w' fun e w''=>e= .returned (.int .i64 (ixV (heldIx o (wrap64 (depth-1)))))/\w''=w':=fun w' h=>zf9 _ w' h;have HT:Hid (takeF o heads ⟨depth,kind,name,num,op,at_⟩=takeN o heads ⟨depth,kind,name,num,op,at_⟩ (heldIx o (wrap64 (depth-1)))):=by
  have h:=zch hwi heads ⟨depth,kind,name,num,op,at_⟩;rw[Go.IntWalk.i64_left] at h;exact h
 have hHX:∀u,heldIx o (wrap64 (depth-1))=some u->u<o.length:=fun u hu=>lastIx_lt hu;generalize heldIx o (wrap64 (depth-1))=hx at hH HT hHX;clear hwi;by_cases k01:kind=0\/kind=1
 ·by_cases hd:depth=1
  ·have hd1:(depth==1)=true:=by simp[hd]
   have hd2:(depth !=1)=false:=by simp[hd]
   cases heads with
   |true=>
    have hn:takeF o true ⟨depth,kind,name,num,op,at_⟩=some o:=by rw[HT.out];unfold takeN;rw[if_pos k01,if_neg (by simp[hd])]
    have HN:=Lib.hid hn;clear hn HT hd;rcases k01 with rfl|rfl
    ·go_wp2_with (first|(go_at_call 52;refine hw52.mono ?_;rintro e w3 ⟨rfl,rfl⟩)|(go_at_call 97;refine(hH _ H.out.shm).mono ?_;rintro e w3 ⟨rfl,rfl⟩)|(go_at_call 98;refine(isStmt_any _ _).mono ?_;rintro e w3 ⟨rfl,rfl⟩));rw[<-HY.out,<-HQ.out];exact stand_tail (H.out.shm) cN0 cN1 H.out.nr H.out.ng (HI.out.depth) (ho) HN.out HF.out (H.out.ap) _ _ _ _ _ _ _ _ _ _ _ _ _ _ _ _ _ _ _ _ _ _ _ _ _ _ _ _ _ _ _ _ _ _ _ _ _ _ _ _ _ _ _ _ _ _ _ _ _ _ _ _ _ _ _ _ _ _ _ _ _ _ _ _ _ _ _ _ _ _ _ _ _ _ _ _ _ _ _ _ _ _ _ _ _ _ _ _ _ _ _ _ _ _ _ _ _ _ _ _ _ _ _ _ _ _ _ _ _ _ _ _ _ _ _ _ _ _ _ _ _ _ _ _ _ _ _ _ _ _ _ _ _ _ _ _ _ _ _ _ _ _ _ _ _ _ _ _ _ _ _ _ _ _ _ _ _ _ _ _ _ _ _ _ _ _ _ _ _ _ _ _ _ _ _ _ _ _ _ _ _ _ _ _ _ _ _ _ _ _ _ _ _ _ _ _ _ _ _ _ _ _ _ _ _ _ _ _ _ _ _ _ _ _ _ _ _ _ _ _
    ·go_wp2_with (first|(go_at_call 52;refine hw52.mono ?_;rintro e w3 ⟨rfl,rfl⟩)|(go_at_call 97;refine(hH _ H.out.shm).mono ?_;rintro e w3 ⟨rfl,rfl⟩)|(go_at_call 98;refine(isStmt_any _ _).mono ?_;rintro e w3 ⟨rfl,rfl⟩));rw[<-HY.out,<-HQ.out];exact stand_tail (H.out.shm) cN0 cN1 H.out.nr H.out.ng (HI.out.depth) (ho) HN.out HF.out (H.out.ap) _ _ _ _ _ _ _ _ _ _ _ _ _ _ _ _ _ _ _ _ _ _ _ _ _ _ _ _ _ _ _ _ _ _ _ _ _ _ _ _ _ _ _ _ _ _ _ _ _ _ _ _ _ _ _ _ _ _ _ _ _ _ _ _ _ _ _ _ _ _ _ _ _ _ _ _ _ _ _ _ _ _ _ _ _ _ _ _ _ _ _ _ _ _ _ _ _ _ _ _ _ _ _ _ _ _ _ _ _ _ _ _ _ _ _ _ _ _ _ _ _ _ _ _ _ _ _ _ _ _ _ _ _ _ _ _ _ _ _ _ _ _ _ _ _ _ _ _ _ _ _ _ _ _ _ _ _ _ _ _ _ _ _ _ _ _ _ _ _ _ _ _ _ _ _ _ _ _ _ _ _ _ _ _ _ _ _ _ _ _ _ _ _ _ _ _ _ _ _ _ _ _ _ _ _ _ _ _ _ _ _ _ _ _ _ _ _ _ _ _
   |false=>
    have hn:takeF o false ⟨depth,kind,name,num,op,at_⟩=none:=by rw[HT.out];unfold takeN;rw[if_pos k01,if_pos (by simp)]
    have HN:=Lib.hid hn;clear hn HT hd;rcases k01 with rfl|rfl
    ·go_wp2_with (first|(go_at_call 52;refine hw52.mono ?_;rintro e w3 ⟨rfl,rfl⟩)|(go_at_call 97;refine(hH _ H.out.shm).mono ?_;rintro e w3 ⟨rfl,rfl⟩)|(go_at_call 98;refine(isStmt_any _ _).mono ?_;rintro e w3 ⟨rfl,rfl⟩));rw[<-HQ.out];exact⟨rfl,_,res51 _ false rfl _,stand_refuse HN.out H.out.ap⟩
    ·go_wp2_with (first|(go_at_call 52;refine hw52.mono ?_;rintro e w3 ⟨rfl,rfl⟩)|(go_at_call 97;refine(hH _ H.out.shm).mono ?_;rintro e w3 ⟨rfl,rfl⟩)|(go_at_call 98;refine(isStmt_any _ _).mono ?_;rintro e w3 ⟨rfl,rfl⟩));rw[<-HQ.out];exact⟨rfl,_,res51 _ false rfl _,stand_refuse HN.out H.out.ap⟩
  ·have hn:takeF o heads ⟨depth,kind,name,num,op,at_⟩=none:=by rw[HT.out];unfold takeN;rw[if_pos k01,if_pos (.inl hd)]
   have HN:=Lib.hid hn;have hd1:(depth==1)=false:=by simp[hd]
   have hd2:(depth !=1)=true:=by simp[hd]
   clear hn HT hd;rcases k01 with rfl|rfl
   ·go_wp2_with (first|(go_at_call 52;refine hw52.mono ?_;rintro e w3 ⟨rfl,rfl⟩)|(go_at_call 97;refine(hH _ H.out.shm).mono ?_;rintro e w3 ⟨rfl,rfl⟩)|(go_at_call 98;refine(isStmt_any _ _).mono ?_;rintro e w3 ⟨rfl,rfl⟩));rw[<-HQ.out];exact⟨rfl,_,res51 _ false rfl _,stand_refuse HN.out H.out.ap⟩
   ·go_wp2_with (first|(go_at_call 52;refine hw52.mono ?_;rintro e w3 ⟨rfl,rfl⟩)|(go_at_call 97;refine(hH _ H.out.shm).mono ?_;rintro e w3 ⟨rfl,rfl⟩)|(go_at_call 98;refine(isStmt_any _ _).mono ?_;rintro e w3 ⟨rfl,rfl⟩));rw[<-HQ.out];exact⟨rfl,_,res51 _ false rfl _,stand_refuse HN.out H.out.ap⟩
 ·have k0:(kind==0)=false:=by simp;omega
  have k1:(kind==1)=false:=by simp;omega
  cases hsb:zx kind with
  |true=>
   have hs2:2<=kind/\kind<=8:=by unfold zx at hsb;simpa using hsb
   have e0:∀hx',takeN o heads ⟨depth,kind,name,num,op,at_⟩ hx'=(if depth=1 then some o else match hx' with
    |some u=>match o[u]? with
     |some h=>if h.kind=9 then some o else none
     |none=>none
    |none=>none):=fun hx'=>by unfold takeN;rw[if_neg k01,if_pos hsb]
   by_cases hd:depth=1
   ·have hd1:(depth==1)=true:=by simp[hd]
    have hd2:(depth !=1)=false:=by simp[hd]
    have hn:takeF o heads ⟨depth,kind,name,num,op,at_⟩=some o:=by rw[HT.out,e0,if_pos hd]
    have HN:=Lib.hid hn;clear hn HT e0 k01 hs2 hHX hd;go_wp2_with (first|(go_at_call 52;refine hw52.mono ?_;rintro e w3 ⟨rfl,rfl⟩)|(go_at_call 97;refine(hH _ H.out.shm).mono ?_;rintro e w3 ⟨rfl,rfl⟩)|(go_at_call 98;refine(isStmt_any _ _).mono ?_;rintro e w3 ⟨rfl,rfl⟩));rw[<-HY.out,<-HQ.out];exact stand_tail (H.out.shm) cN0 cN1 H.out.nr H.out.ng (HI.out.depth) (ho) HN.out HF.out (H.out.ap) _ _ _ _ _ _ _ _ _ _ _ _ _ _ _ _ _ _ _ _ _ _ _ _ _ _ _ _ _ _ _ _ _ _ _ _ _ _ _ _ _ _ _ _ _ _ _ _ _ _ _ _ _ _ _ _ _ _ _ _ _ _ _ _ _ _ _ _ _ _ _ _ _ _ _ _ _ _ _ _ _ _ _ _ _ _ _ _ _ _ _ _ _ _ _ _ _ _ _ _ _ _ _ _ _ _ _ _ _ _ _ _ _ _ _ _ _ _ _ _ _ _ _ _ _ _ _ _ _ _ _ _ _ _ _ _ _ _ _ _ _ _ _ _ _ _ _ _ _ _ _ _ _ _ _ _ _ _ _ _ _ _ _ _ _ _ _ _ _ _ _ _ _ _ _ _ _ _ _ _ _ _ _ _ _ _ _ _ _ _ _ _ _ _ _ _ _ _ _ _ _ _ _ _ _ _ _ _ _ _ _ _ _ _ _ _ _ _ _ _
   ·have hd1:(depth==1)=false:=by simp[hd]
    have hd2:(depth !=1)=true:=by simp[hd]
    cases hx with
    |none=>
     have hn:takeF o heads ⟨depth,kind,name,num,op,at_⟩=none:=by rw[HT.out,e0,if_neg hd]
     have HN:=Lib.hid hn;have e1:ixV none= -1:=rfl;rw[e1] at hH;clear hn HT e0 k01 hs2 hHX hd;go_wp2_with (first|(go_at_call 52;refine hw52.mono ?_;rintro e w3 ⟨rfl,rfl⟩)|(go_at_call 97;refine(hH _ H.out.shm).mono ?_;rintro e w3 ⟨rfl,rfl⟩)|(go_at_call 98;refine(isStmt_any _ _).mono ?_;rintro e w3 ⟨rfl,rfl⟩));rw[<-HQ.out];exact⟨rfl,_,res51 _ false rfl _,stand_refuse HN.out H.out.ap⟩
    |some u=>
     have e1:ixV (some u)=(u:Int):=rfl;rw[e1] at hH;have hul:=hHX u rfl;obtain⟨g,hg⟩:∃g,o[u]? =some g:=⟨_,List.getElem?_eq_getElem hul⟩
     have q1:=H.out.shm.kind hg;have hu0:(0:Int)<=u:=by omega
     have hu1:((u:Int)<0)=False:=by apply eq_false;omega
     by_cases hk9:g.kind=9
     ·have hn:takeF o heads ⟨depth,kind,name,num,op,at_⟩=some o:=by rw[HT.out,e0,if_neg hd];simp only[hg,hk9,if_true]
      have HN:=Lib.hid hn;have hg1:(g.kind==9)=true:=by simp[hk9]
      have hg2:(g.kind !=9)=false:=by simp[hk9]
      clear hn HT e0 k01 hs2 hHX hd e1 hg hk9;go_wp2_with (first|(go_at_call 52;refine hw52.mono ?_;rintro e w3 ⟨rfl,rfl⟩)|(go_at_call 97;refine(hH _ H.out.shm).mono ?_;rintro e w3 ⟨rfl,rfl⟩)|(go_at_call 98;refine(isStmt_any _ _).mono ?_;rintro e w3 ⟨rfl,rfl⟩));rw[<-HY.out,<-HQ.out];exact stand_tail (H.out.shm) cN0 cN1 H.out.nr H.out.ng (HI.out.depth) (ho) HN.out HF.out (H.out.ap) _ _ _ _ _ _ _ _ _ _ _ _ _ _ _ _ _ _ _ _ _ _ _ _ _ _ _ _ _ _ _ _ _ _ _ _ _ _ _ _ _ _ _ _ _ _ _ _ _ _ _ _ _ _ _ _ _ _ _ _ _ _ _ _ _ _ _ _ _ _ _ _ _ _ _ _ _ _ _ _ _ _ _ _ _ _ _ _ _ _ _ _ _ _ _ _ _ _ _ _ _ _ _ _ _ _ _ _ _ _ _ _ _ _ _ _ _ _ _ _ _ _ _ _ _ _ _ _ _ _ _ _ _ _ _ _ _ _ _ _ _ _ _ _ _ _ _ _ _ _ _ _ _ _ _ _ _ _ _ _ _ _ _ _ _ _ _ _ _ _ _ _ _ _ _ _ _ _ _ _ _ _ _ _ _ _ _ _ _ _ _ _ _ _ _ _ _ _ _ _ _ _ _ _ _ _ _ _ _ _ _ _ _ _ _ _ _ _ _ _
     ·have hn:takeF o heads ⟨depth,kind,name,num,op,at_⟩=none:=by rw[HT.out,e0,if_neg hd];simp only[hg,hk9,if_false]
      have HN:=Lib.hid hn;have hg1:(g.kind==9)=false:=by simp[hk9]
      have hg2:(g.kind !=9)=true:=by simp[hk9]
      clear hn HT e0 k01 hs2 hHX hd e1 hg hk9;go_wp2_with (first|(go_at_call 52;refine hw52.mono ?_;rintro e w3 ⟨rfl,rfl⟩)|(go_at_call 97;refine(hH _ H.out.shm).mono ?_;rintro e w3 ⟨rfl,rfl⟩)|(go_at_call 98;refine(isStmt_any _ _).mono ?_;rintro e w3 ⟨rfl,rfl⟩));rw[<-HQ.out];exact⟨rfl,_,res51 _ false rfl _,stand_refuse HN.out H.out.ap⟩
  |false=>
   by_cases hk9:kind=9
   ·subst hk9;have e0:∀hx',takeN o heads ⟨depth,9,name,num,op,at_⟩ hx'=(match hx' with
     |some u=>match o[u]? with
      |some h=>if h.kind=7/\h.blocks=1 then some (o.set u {h with blocks:=h.blocks+1}) else none
      |none=>none
     |none=>none):=fun hx'=>by unfold takeN;rw[if_neg k01,if_neg (by simp[hsb]),if_pos rfl]
    cases hx with
    |none=>
     have hn:takeF o heads ⟨depth,9,name,num,op,at_⟩=none:=by rw[HT.out,e0]
     have HN:=Lib.hid hn;have e1:ixV none= -1:=rfl;rw[e1] at hH;clear hn HT e0 k01 hHX;go_wp2_with (first|(go_at_call 52;refine hw52.mono ?_;rintro e w3 ⟨rfl,rfl⟩)|(go_at_call 97;refine(hH _ H.out.shm).mono ?_;rintro e w3 ⟨rfl,rfl⟩)|(go_at_call 98;refine(isStmt_any _ _).mono ?_;rintro e w3 ⟨rfl,rfl⟩));rw[<-HQ.out];exact⟨rfl,_,res51 _ false rfl _,stand_refuse HN.out H.out.ap⟩
    |some u=>
     have e1:ixV (some u)=(u:Int):=rfl;rw[e1] at hH;have hul:=hHX u rfl;obtain⟨g,hg⟩:∃g,o[u]? =some g:=⟨_,List.getElem?_eq_getElem hul⟩
     have q1:=H.out.shm.kind hg;have q3:=H.out.shm.blocks hg;have hgs:=HI.out.small u g hg;have f3:=H.out.shm.fr (u*4+3);have hu0:(0:Int)<=u:=by omega
     have hu1:((u:Int)<0)=False:=by apply eq_false;omega
     have HG:=Lib.hid hg;by_cases hk7:g.kind=7
     ·have hg1:(g.kind==7)=true:=by simp[hk7]
      have hg2:(g.kind !=7)=false:=by simp[hk7]
      by_cases hb1:g.blocks=1
      ·have hn:takeF o heads ⟨depth,9,name,num,op,at_⟩=some (o.set u {g with blocks:=g.blocks+1}):=by rw[HT.out,e0];simp only[hg,hk7,hb1,and_self,if_true]
       have HN:=Lib.hid hn;have hg3:(g.blocks==1)=true:=by simp[hb1]
       have hg4:(g.blocks !=1)=false:=by simp[hb1]
       clear hn HT e0 k01 hHX e1 hg hk7 hb1;go_wp2_with (first|(go_at_call 52;refine hw52.mono ?_;rintro e w3 ⟨rfl,rfl⟩)|(go_at_call 97;refine(hH _ H.out.shm).mono ?_;rintro e w3 ⟨rfl,rfl⟩)|(go_at_call 98;refine(isStmt_any _ _).mono ?_;rintro e w3 ⟨rfl,rfl⟩));rw[<-HY.out,<-HQ.out];exact stand_tail (H.out.shm.setBlocks HG.out (g.blocks+1)) (by simp[go_sem,cN0,hNg]) (by simp[go_sem,cN1,hNg]) H.out.nr H.out.ng (set_depth (g':={g with blocks:=g.blocks+1}) HI.out.depth HG.out rfl) ((by simp;omega)) HN.out HF.out (H.out.ap.trans ((Ap.refl _).set (a:=⟨gb,_,none⟩) (.inr rfl) _)) _ _ _ _ _ _ _ _ _ _ _ _ _ _ _ _ _ _ _ _ _ _ _ _ _ _ _ _ _ _ _ _ _ _ _ _ _ _ _ _ _ _ _ _ _ _ _ _ _ _ _ _ _ _ _ _ _ _ _ _ _ _ _ _ _ _ _ _ _ _ _ _ _ _ _ _ _ _ _ _ _ _ _ _ _ _ _ _ _ _ _ _ _ _ _ _ _ _ _ _ _ _ _ _ _ _ _ _ _ _ _ _ _ _ _ _ _ _ _ _ _ _ _ _ _ _ _ _ _ _ _ _ _ _ _ _ _ _ _ _ _ _ _ _ _ _ _ _ _ _ _ _ _ _ _ _ _ _ _ _ _ _ _ _ _ _ _ _ _ _ _ _ _ _ _ _ _ _ _ _ _ _ _ _ _ _ _ _ _ _ _ _ _ _ _ _ _ _ _ _ _ _ _ _ _ _ _ _ _ _ _ _ _ _ _ _ _ _ _ _
      ·have hn:takeF o heads ⟨depth,9,name,num,op,at_⟩=none:=by rw[HT.out,e0];simp only[hg,hb1,and_false,if_false]
       have HN:=Lib.hid hn;have hg3:(g.blocks==1)=false:=by simp[hb1]
       have hg4:(g.blocks !=1)=true:=by simp[hb1]
       clear hn HT e0 k01 hHX e1 hg hk7 hb1;go_wp2_with (first|(go_at_call 52;refine hw52.mono ?_;rintro e w3 ⟨rfl,rfl⟩)|(go_at_call 97;refine(hH _ H.out.shm).mono ?_;rintro e w3 ⟨rfl,rfl⟩)|(go_at_call 98;refine(isStmt_any _ _).mono ?_;rintro e w3 ⟨rfl,rfl⟩));rw[<-HQ.out];exact⟨rfl,_,res51 _ false rfl _,stand_refuse HN.out H.out.ap⟩
     ·have hn:takeF o heads ⟨depth,9,name,num,op,at_⟩=none:=by rw[HT.out,e0];simp only[hg,hk7,false_and,if_false]
      have HN:=Lib.hid hn;have hg1:(g.kind==7)=false:=by simp[hk7]
      have hg2:(g.kind !=7)=true:=by simp[hk7]
      clear hn HT e0 k01 hHX e1 hg hk7;go_wp2_with (first|(go_at_call 52;refine hw52.mono ?_;rintro e w3 ⟨rfl,rfl⟩)|(go_at_call 97;refine(hH _ H.out.shm).mono ?_;rintro e w3 ⟨rfl,rfl⟩)|(go_at_call 98;refine(isStmt_any _ _).mono ?_;rintro e w3 ⟨rfl,rfl⟩));rw[<-HQ.out];exact⟨rfl,_,res51 _ false rfl _,stand_refuse HN.out H.out.ap⟩
   ·have hn:takeF o heads ⟨depth,kind,name,num,op,at_⟩=none:=by rw[HT.out];unfold takeN;rw[if_neg k01,if_neg (by simp[hsb]),if_neg hk9]
    have HN:=Lib.hid hn;have hg1:(kind==9)=false:=by simp[hk9]
    have hg2:(kind !=9)=true:=by simp[hk9]
    clear hn HT k01 hHX hk9;go_wp2_with (first|(go_at_call 52;refine hw52.mono ?_;rintro e w3 ⟨rfl,rfl⟩)|(go_at_call 97;refine(hH _ H.out.shm).mono ?_;rintro e w3 ⟨rfl,rfl⟩)|(go_at_call 98;refine(isStmt_any _ _).mono ?_;rintro e w3 ⟨rfl,rfl⟩));rw[<-HQ.out];exact⟨rfl,_,res51 _ false rfl _,stand_refuse HN.out H.out.ap⟩
theorem stands_any{B r gb:Nat}{o:List Hold}{heads:Bool}(n:Nd)(hs:n.name.size<=140737488355328)(w:World)(h:ShM w B r gb o heads){st:List Opn}{begun:Bool}(hI:ShI o heads st begun)(ho:o.length<=24):
 Calls Tryz.prog 51 #[.pointer (some ⟨r,0,none⟩), .agg n.cells.toArray] w (StandPost w B r gb o heads n):=by
 obtain⟨depth,kind,name,num,op,at_⟩:=n
 refine zck depth kind name num op at_ hs w h fun hf w2 N hH=>?_;cases hwi:xf o with
 |some u=>exact za3 hI ho hf hH hwi
 |none=>exact zcj hI ho hf hH hwi
def NodesAt(w:World)(v:Value)(l:List Nd):Prop:=
 ∃b cap,v= .slice b l.length cap/\l.length<=cap/\(l≠[]->∃g off,b=some ⟨g,off,none⟩/\∀(j:Nat) (n:Nd),l[j]? =some n->∀(k:Nat) (c:Value),n.cells[k]? =some c->w.cell? ⟨g,off+j*6+k,none⟩=some c)
theorem NodesAt.kin{w w':World}{v:Value}{l:List Nd}(h:NodesAt w v l)(k:Kin w w'):NodesAt w' v l:=by
 obtain⟨b,cap,h1,h2,h3⟩:=h
 refine⟨b,cap,h1,h2,fun hl=>?_⟩;obtain⟨g,off,h4,h5⟩:=h3 hl
 refine⟨g,off,h4,fun j n hj x c hc=>?_⟩;have:=h5 j n hj x c hc
 exact(k.cell (World.block_lt_of_cell? w ⟨g,_,none⟩ this)).trans this
theorem ShM.start{w:World}{c:Array Value}{B:Nat}(hc:c.size=104)(hB:B<=w.heap.size):ShM ((w.alloc (.cells c 157)).alloc (.cells #[.slice (some ⟨w.heap.size,0,none⟩) 0 26, .bool true] 100)) B (w.heap.size+1) w.heap.size [] true:=by
 have h1:=(World.rowIs_alloc w c 157 (fun i=>c[i]?.getD undef) fun i hi=>by simp[hi]).alloc (.cells #[.slice (some ⟨w.heap.size,0,none⟩) 0 26, .bool true] 100)
 have h2:=World.rowIs_alloc (w.alloc (.cells c 157)) #[.slice (some ⟨w.heap.size,0,none⟩) 0 26, .bool true] 100 (shF w.heap.size 0 true) (fun i hi=>by
  match i,hi with
  |0,_=>rfl
  |1,_=>rfl)
 rw[hc] at h1;have hs:(w.alloc (.cells c 157)).heap.size=w.heap.size+1:=by simp
 rw[hs] at h2;exact⟨h2,⟨_,h1,fun j h hj=>by simp at hj⟩,by simp,by omega,by omega,hB⟩
theorem zeh(w:World)(a b c d e f:Value):(w.alloc (.cells #[a,b,c,d,e,f] 50)).cell? ⟨w.heap.size,0,none⟩=some a:=by
 simp[go_sem]
theorem ziR:∃c:Array Value,c.size=104/\∀u:World,(Instr.makeSlice 98 (.int .i64 0) (.int .i64 26)).run Tryz.prog u= .ok (.slice (some ⟨u.heap.size,0,none⟩) 0 26) (u.alloc (.cells c 157)):=by
 obtain⟨ti,hi,hz0,hz1,hz2⟩:=info_parts zb0
 have h:=fun u:World=>run_make (P:=Tryz.prog) u 98 157 ti _ Tryz.underlying98 hi hz0 .i64 .i64 0 26 (by omega) (by omega) (by rw[hz2];decide) (by omega)
 refine⟨_,?_,h⟩;rw[size_madeCells];show 26*ti.size=104;rw[hz1]
theorem kZ(l:List Nd)(hl:∀n∈l,n.name.size<=140737488355328/\ -9223372036854775808<=n.depth/\n.depth<=9223372036854775807)(hlen:l.length<=9223372036854775807)(v:Value)(w:World)(h:NodesAt w v l):
 Calls Tryz.prog 18 #[v] w fun e w'=>e= .returned (.tuple #[.int .i64 (shapeF l).1, .int .i64 (shapeF l).2])/\Kin w w':=by
 have HL:=Lib.hid hl;have HN:=Lib.hid h;clear hl;obtain⟨b,cap,rfl,hcap,hne⟩:=h
 have HNE:=Lib.hid hne;clear hne;by_cases hm:300<l.length
 ·have hs:shapeF l=(32,300):=by unfold shapeF;rw[if_pos hm]
  have hd:decide ((300:Int)<(l.length:Int))=true:=by simp;omega
  rw[hs];clear hs hm;go_enter Tryz.func18,Tryz.ntmps18;go_wp2;go_ret2
  exact⟨rfl,Kin.refl _⟩
 ·have hs:shapeF l=shapeG [] true 0 l:=by unfold shapeF;rw[if_neg hm]
  have hd:decide ((300:Int)<(l.length:Int))=false:=by simp;omega
  rw[hs];obtain⟨c,hc,hmk⟩:=ziR
  have HM:=Lib.hid (ShM.start (w:=w) hc (Nat.le_refl _));have HK:=Lib.hid ((Kin.refl w).alloc (.cells c 157));generalize hR:shapeG [] true 0 l=R;have HR:=Lib.hid hR;clear hs hR;go_enter Tryz.func18,Tryz.ntmps18;go_wp2_with fail;have h0:ShM ((w.alloc (.cells c 157)).alloc (.cells #[.slice (some ⟨w.heap.size,0,none⟩) 0 26, .bool true] 100)) w.heap.size (w.heap.size+1) w.heap.size [] true:=HM.out;have k0:Kin w ((w.alloc (.cells c 157)).alloc (.cells #[.slice (some ⟨w.heap.size,0,none⟩) 0 26, .bool true] 100)):=HK.out.alloc _;have HM0:=Lib.hid h0;have HK0:=Lib.hid k0;clear h0 k0 HM HK hmk hc;generalize (w.alloc (.cells c 157)).alloc (.cells #[.slice (some ⟨w.heap.size,0,none⟩) 0 26, .bool true] 100)=W0 at HM0 HK0⊢;obtain⟨R1,R2⟩:=R
  go_loopg [15] l.length (fun g x wq=>∃(k:Nat) (o:List Hold) (heads:Bool) (st:List Opn) (begun:Bool),x= .int .i64 k/\k<=l.length/\g=l.length-k/\ShM wq w.heap.size (w.heap.size+1) w.heap.size o heads/\ShI o heads st begun/\o.length<=24/\Ap (w.heap.size+1) w.heap.size W0 wq/\shapeG o heads k (l.drop k)=(R1,R2))
  case atStart=>exact⟨0,[],true,[],false,rfl,Nat.zero_le _,rfl,HM0.out,ShI.start,by decide,Ap.refl _,HR.out⟩
  case round=>
   obtain⟨k,o,heads,st,begun,rfl,hk,hg,hS,hI,ho,hA,hG⟩:=hrel
   have HS:=Lib.hid hS;have HI:=Lib.hid hI;have HA:=Lib.hid hA;have HG:=Lib.hid hG;have HGG:=Lib.hid hg;have HO:=Lib.hid ho;clear hS hI hA hG hg ho;have kin:∀w':World,Ap (w.heap.size+1) w.heap.size wr w'->Kin w w':=fun w' h=>by
    have a:=HA.out.trans h;have q:=HK0.out;have qs:=q.size;exact⟨a.os.trans q.os,a.out.trans q.out,Nat.le_trans q.size a.size,fun j hj=>(a.block j (by omega) (by omega) (by omega)).trans (q.block j hj)⟩
   have KIN:=Lib.hid kin;clear kin;by_cases hlk:k<l.length
   ·obtain⟨⟨depth,kind,name,num,op,at_⟩,hu⟩:∃u,l[k]? =some u:=⟨_,List.getElem?_eq_getElem hlk⟩
    obtain⟨gb,off,rfl,hcell⟩:=HNE.out (by rintro rfl;simp at hlk)
    have cells:∀(x:Nat) (v:Value),(Nd.mk depth kind name num op at_).cells[x]? =some v->wr.cell? ⟨gb,off+k*6+x,none⟩=some v:=fun x v hv=>by
     have:=hcell k _ hu x v hv
     have hb:=World.block_lt_of_cell? w _ this;have h2:=HK0.out.cell (n:=gb) (o:=off+k*6+x) hb;have hbz:gb<w.heap.size:=hb;have hs0:=HK0.out.size;exact((HA.out.cell (by omega) (by omega) (by omega)).trans h2).trans this
    have r0:=cells 0 _ rfl;have r1:=cells 1 _ rfl;have r2:=cells 2 _ rfl;have r3:=cells 3 _ rfl;have r4:=cells 4 _ rfl;have r5:=cells 5 _ rfl;simp only[Nat.add_zero] at r0;have hul:=HL.out _ (List.mem_of_getElem? hu);have hdrop:l.drop k=⟨depth,kind,name,num,op,at_⟩::l.drop (k+1):=by
     rw[List.drop_eq_getElem_cons hlk];rw[List.getElem?_eq_getElem hlk] at hu;rw[Option.some.inj hu]
    have HC:=Lib.hid hcell;have HU:=Lib.hid hul;have HDR:=Lib.hid hdrop;clear cells hcell hu hul hdrop;have hAl:Ap (w.heap.size+1) w.heap.size wr (wr.alloc (.cells #[.int .i64 depth, .int .i64 kind, .string name, .int .i64 num, .int .i64 op, .int .i64 at_] 50)):=Ap.of_kin ((Kin.refl _).alloc _);have hst:=stands_any ⟨depth,kind,name,num,op,at_⟩ HU.out.1 _ (HS.out.kin ((Kin.refl wr).alloc (.cells #[.int .i64 depth, .int .i64 kind, .string name, .int .i64 num, .int .i64 op, .int .i64 at_] 50))) HI.out HO.out;have hsm:=stand_same HI.out HO.out ⟨depth,kind,name,num,op,at_⟩ HU.out.2.1 HU.out.2.2;have hG:=HG.out;rw[HDR.out] at hG;unfold shapeG at hG;unfold StandPost at hst;cases hsf:xg o heads ⟨depth,kind,name,num,op,at_⟩ with
    |none=>
     rw[hsf] at hG hst;cases hG;have hst2:Calls Tryz.prog 51 #[.pointer (some ⟨w.heap.size+1,0,none⟩), .agg #[.int .i64 depth, .int .i64 kind, .string name, .int .i64 num, .int .i64 op, .int .i64 at_]] (wr.alloc (.cells #[.int .i64 depth, .int .i64 kind, .string name, .int .i64 num, .int .i64 op, .int .i64 at_] 50)) (fun e w'=>e= .returned (.bool false)/\Kin w w'):=hst.mono fun e w' h=>⟨h.2,KIN.out _ (hAl.trans h.1)⟩;clear hst hsf hsm hAl;go_wp2_with (go_at_call 51;refine hst2.mono ?_;rintro e w3 ⟨rfl,hk3⟩);go_ret2
     exact⟨rfl,hk3⟩
    |some p=>
     obtain⟨o',h'⟩:=p
     rcases hsm with⟨e1,_⟩|⟨o1,h1,st1,b1,e1,_,e3,e4⟩
     ·rw[hsf] at e1;cases e1
     rw[hsf] at e1;cases e1;rw[hsf] at hG hst;dsimp only at hG
     have E3:=Lib.hid e3;have E4:=Lib.hid e4;have hst2:Calls Tryz.prog 51 #[.pointer (some ⟨w.heap.size+1,0,none⟩), .agg #[.int .i64 depth, .int .i64 kind, .string name, .int .i64 num, .int .i64 op, .int .i64 at_]] (wr.alloc (.cells #[.int .i64 depth, .int .i64 kind, .string name, .int .i64 num, .int .i64 op, .int .i64 at_] 50)) (fun e w'=>e= .returned (.bool true)/\Ap (w.heap.size+1) w.heap.size wr w'/\ShM w' w.heap.size (w.heap.size+1) w.heap.size o' h'/\w'.cell? ⟨wr.heap.size,0,none⟩=some (.int .i64 depth)):=hst.mono fun e w' h=>⟨h.2.1,hAl.trans h.1,h.2.2,by
      have hz:=HA.out.size;have hz0:=HK0.out.size;have hb:=HM0.out.s.lt;exact(h.1.cell (by simp) (by omega) (by omega)).trans (zeh wr _ _ _ _ _ _)⟩
     clear hst hsf hAl e3 e4;by_cases hd24:24<depth
     ·rw[if_pos hd24] at hG;cases hG;have hdd:decide (24<depth)=true:=by simp[hd24]
      have HD24:=Lib.hid hd24;clear hd24;go_wp2_with (go_at_call 51;refine hst2.mono ?_;rintro e w3 ⟨rfl,hA3,hS3,hc3⟩);go_ret2
      exact⟨rfl,KIN.out _ hA3⟩
     ·rw[if_neg hd24] at hG;have hdd:decide (24<depth)=false:=by simp;omega
      have HD24:=Lib.hid hd24;have HG2:=Lib.hid hG;clear hd24 hG;go_wp2_with (go_at_call 51;refine hst2.mono ?_;rintro e w3 ⟨rfl,hA3,hS3,hc3⟩);go_roundg (l.length-(k+1))
      case measure=>have:=HGG.out;omega
      case rel=>exact⟨k+1,o',h',_,_,by simp,by omega,rfl,hS3,E4.out,by have:=E3.out;have:=HD24.out;omega,HA.out.trans hA3,HG2.out⟩
   ·have hkl:k=l.length:=by omega
    subst hkl;have hG:=HG.out;rw[List.drop_length] at hG;unfold shapeG at hG;have hwt:=j5 wr HS.out;cases hw:xf o with
    |none=>
     rw[hw] at hG hwt;cases hG;have HK1:=Lib.hid (KIN.out _ (Ap.refl _));go_wp2_with (go_at_call 52;refine hwt.mono ?_;rintro e w3 ⟨rfl,rfl⟩);go_ret2
     exact⟨rfl,HK1.out⟩
    |some u=>
     rw[hw] at hG hwt;cases hG;have hx:decide ((0:Int)<=ixV (some u))=true:=by simp[ixV]
     have HK1:=Lib.hid (KIN.out _ (Ap.refl _));go_wp2_with (go_at_call 52;refine hwt.mono ?_;rintro e w3 ⟨rfl,rfl⟩);go_ret2
     exact⟨rfl,HK1.out⟩
end Go.Proofs.YtonmcakdofbjiaaGreatDoor
