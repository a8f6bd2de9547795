/- A part. -/
import Derived.Test.YtonmcakdofbjiaaGreatDoorK20
import Derived.Test.YtonmcakdofbjiaaGreatDoorK22
import Derived.Test.YtonmcakdofbjiaaGreatDoorK17
import Derived.Deep.RegionWith
import Derived.BigRegion
import Derived.Deep.RegionHeld3
import Derived.Deep.LoopGhost
set_option linter.all false
set_option maxRecDepth 100000
set_option maxHeartbeats 8000000
namespace Go.Proofs.YtonmcakdofbjiaaGreatDoor
open Go.RowKit
def markL(k n:Nat):List Nd:=(List.range n).map (markN k)
def z8(f:Nat->List Nd)(k i:Nat):Nat->List Nd:=fun j=>if j<k then markL j (f j).length else if j=k then markL k i++(f k).drop i else f j
theorem qo(f:Nat->List Nd)(k i:Nat)(hi:i<=(f k).length)(j:Nat):(z8 f k i j).length=(f j).length:=by
 unfold z8
 split
 ·simp[markL]
 ·split
  ·rename_i h;subst h;simp[markL];omega
  ·rfl
theorem markF_zero(f:Nat->List Nd):z8 f 0 0=f:=by
 funext k
 unfold z8
 rw[if_neg (by omega)]
 split
 ·rename_i h;subst h;simp[markL]
 ·rfl
theorem markF_next(f:Nat->List Nd)(k:Nat):z8 f k (f k).length=z8 f (k+1) 0:=by
 funext j
 unfold z8
 by_cases h1:j<k
 ·rw[if_pos h1,if_pos (by omega)]
 ·rw[if_neg h1]
  by_cases h2:j=k
  ·subst h2
   rw[if_pos rfl,if_pos (by omega)]
   simp
  ·rw[if_neg h2,if_neg (by omega)]
   split
   ·rename_i h;subst h;simp[markL]
   ·rfl
theorem markF_step(f:Nat->List Nd)(k i:Nat)(hi:i<(f k).length):(fun j=>if j=k then (z8 f k i k).set i (markN k i) else z8 f k i j)=z8 f k (i+1):=by
 funext j
 by_cases h2:j=k
 ·subst h2
  unfold z8
  simp only[if_true,Nat.lt_irrefl,if_false]
  have hl:(markL j i).length=i:=by simp[markL]
  rw[List.set_append_right _ _ (by omega),hl,Nat.sub_self,List.drop_eq_getElem_cons hi,List.set_cons_zero]
  simp[markL,List.range_succ]
 ·simp only[if_neg h2]
  unfold z8
  by_cases h1:j<k
  ·rw[if_pos h1,if_pos h1]
  ·rw[if_neg h1,if_neg h1,if_neg h2,if_neg h2]
theorem jR{w:World}{B g n cap:Nat}{e:TypeId}{size:Nat}{xs:List Value}(h:w.ownsRow B e size (.slice (some ⟨g,0,none⟩) n cap) n xs)(j:Nat)(u:Value):(w.setCell ⟨g,j,none⟩ u).ownsRow B e size (.slice (some ⟨g,0,none⟩) n cap) n (xs.set j u):=by
 obtain⟨h1,h2⟩:=h
 refine⟨by simpa using h1,?_⟩
 rcases h2 with⟨h2,_⟩|⟨g',cap',cur,hv,hg,hh,hn,hm,hs,ht⟩
 ·simp at h2
 ·simp only[Value.slice.injEq,Option.some.injEq,Addr.mk.injEq,and_true,true_and] at hv
  obtain⟨rfl,rfl⟩:=hv
  refine Or.inr ⟨g,cap,cur.setIfInBounds j u,rfl,hg,?_,hn,hm,by simpa using hs,?_⟩
  ·have hlt:g<w.heap.size:=(Array.getElem?_eq_some_iff.1 hh).1
   have h':w.heap[g]= .cells cur e (0,0):=(Array.getElem?_eq_some_iff.1 hh).2
   show(w.heap.modify g _)[g]? =_
   rw[Array.getElem?_eq_getElem (by simpa using hlt),Array.getElem_modify_self,h']
   rfl
  ·rw[Array.toList_setIfInBounds,List.take_set,ht]
theorem ze4:∀(L:List Nd) (i:Nat) (n:Nd),ndCells (L.set i n)=((((((ndCells L).set (i*6) (.int .i64 n.depth)).set (i*6+1) (.int .i64 n.kind)).set (i*6+2) (.string n.name)).set (i*6+3) (.int .i64 n.num)).set (i*6+4) (.int .i64 n.op)).set (i*6+5) (.int .i64 n.at_)
 |[],i,n=>by simp[ndCells]
 |a::l,0,n=>by simp[ndCells,Nd.cells]
 |a::l,i+1,n=>by
  have ih:=ze4 l i n
  have e:∀m:List Nd,ndCells (a::m)=(.int .i64 a.depth)::(.int .i64 a.kind)::(.string a.name)::(.int .i64 a.num)::(.int .i64 a.op)::(.int .i64 a.at_)::ndCells m:=fun m=>by simp[ndCells,Nd.cells]
  rw[List.set_cons_succ,e,ih,e]
  rw[show(i+1)*6=i*6+6 by omega,show i*6+6+1=i*6+1+6 by omega,show i*6+6+2=i*6+2+6 by omega,show i*6+6+3=i*6+3+6 by omega,show i*6+6+4=i*6+4+6 by omega,show i*6+6+5=i*6+5+6 by omega]
  simp only[List.set_cons_succ]
def zdr(w:World)(g i:Nat)(n:Nd):World:=(((((w.setCell ⟨g,i*6,none⟩ (.int .i64 n.depth)).setCell ⟨g,i*6+1,none⟩ (.int .i64 n.kind)).setCell ⟨g,i*6+2,none⟩ (.string n.name)).setCell ⟨g,i*6+3,none⟩ (.int .i64 n.num)).setCell ⟨g,i*6+4,none⟩ (.int .i64 n.op)).setCell ⟨g,i*6+5,none⟩ (.int .i64 n.at_)
theorem zeN{w:World}{B g cap:Nat}{L:List Nd}(h:w.ownsRow B 50 6 (.slice (some ⟨g,0,none⟩) L.length cap) L.length (ndCells L))(i:Nat)(n:Nd):(zdr w g i n).ownsRow B 50 6 (.slice (some ⟨g,0,none⟩) (L.set i n).length cap) (L.set i n).length (ndCells (L.set i n)):=by
 rw[ze4,List.length_set]
 exact jR (jR (jR (jR (jR (jR h _ _) _ _) _ _) _ _) _ _) _ _
theorem qL(w:World)(g j:Nat)(u:Value):w.grownBy (w.setCell ⟨g,j,none⟩ u) (some g):=
 ⟨rfl,rfl,rfl,by simp[World.setCell],fun k _ hk=>Below.heap_setCell _ _ _ _ (by simpa using hk)⟩
theorem qV{a b c:World}{r:Option Nat}(h:a.grownBy b r)(k:b.grownBy c r):a.grownBy c r:=
 ⟨k.os.trans h.os,k.tape.trans h.tape,k.output.trans h.output,Nat.le_trans h.size k.size,fun j hj hr=>(k.block j (Nat.lt_of_lt_of_le hj h.size) hr).trans (h.block j hj hr)⟩
theorem putNd_grown(w:World)(g i:Nat)(n:Nd):w.grownBy (zdr w g i n) (some g):=
 qV (qV (qV (qV (qV (qL _ _ _ _) (qL _ _ _ _)) (qL _ _ _ _)) (qL _ _ _ _)) (qL _ _ _ _)) (qL _ _ _ _)
theorem zcH(w:World)(o:Obj):Kin w (w.alloc o).drew:=⟨rfl,rfl,by show w.heap.size<=(w.heap.push o).size;simp,fun k hk=>Below.heap_alloc w o k hk⟩
theorem zfy{B:Nat}{a w:World}(h:Below B a w)(hB:B<=w.heap.size)(o:Obj):Below B a (w.alloc o).drew:=(h.alloc hB o).drew
theorem qa.put{w:World}{B:Nat}{vs:List Value}{f:Nat->List Nd}{k i g n cap:Nat}(h:qa w B vs (z8 f k i))(hs:Sep vs)(hv:vs[k]? =some (.slice (some ⟨g,0,none⟩) n cap))(hn:(f k).length=n)(hi:i<n):qa (zdr w g i (markN k i)) B vs (z8 f k (i+1)):=by
 have hl:=qo f k i (by omega) k
 have ho:=h k _ hv
 rw[<-hn,<-hl] at hv
 rw[hl,hn] at ho
 rw[<-markF_step f k i (by omega)]
 refine h.wrote hs hv rfl (putNd_grown _ _ _ _) ?_
 have:=zeN (w:=w) (B:=B) (g:=g) (cap:=cap) (L:=z8 f k i k) (by rw[hl,hn];exact ho) i (markN k i)
 rw[List.length_set] at this⊢
 exact this
def jP(w w':World)(v v':Value):Prop:=(v'.ownBlock=v.ownBlock/\w.grownBy w' v.ownBlock)\/(w.grownBy w' none/\∀k,v'.ownBlock=some k->w.heap.size<=k)
theorem wj{P:Program}(w:World)(base:Nat)(t ty e:TypeId)(i:TypeInfo)(z:Value)(size bytes:Nat)(ht:P.underlying t=some (.slice e))(hi:P.info? e=some i)(hz:i.zero=some z)
 (hsize:i.size=size) (hby:i.bytes=bytes) (hzs:z.cells.size=size) (hsz:0<size)
 (v:Value) (n:Nat) (xs:List Value) (hown:w.ownsRow base e size v n xs)
 (a:Addr) (m c:Nat) (news:List Value) (hl:news.length=m*size) (hnews:∀j u,news[j]? =some u->w.cell? (a.add j)=some u) (h1:∀u∈news,u.oneCell'=true)
 (h63:n+m<=maxLen) (hbytes:(n+m)*bytes<=140737488355328) (hbase:base<=w.heap.size):
 ∃v' w',(Builtin.append_ #[t,t] ty #[v, .slice (some a) m c]).run P w= .ok v' w'/\w'.ownsRow base e size v' (n+m) (xs++news)/\jP w w' v v':=by
 have mono:∀{w':World} {v':Value} {N:Nat} {ys:List Value},w'.ownsRow w.heap.size e size v' N ys->w'.ownsRow base e size v' N ys/\∀k,v'.ownBlock=some k->w.heap.size<=k:=by
  intro w' v' N ys h
  refine⟨⟨h.1,?_⟩,fun k hk=>(h.lt k hk).1⟩
  rcases h.2 with h2|⟨g,cap,cur,h2,h3,h4⟩
  ·exact .inl h2
  ·exact .inr ⟨g,cap,cur,h2,by omega,h4⟩
 rcases hown.2 with⟨rfl,rfl⟩|⟨g,cap,cur,rfl,hb,hg,hn,hm,hs,htake⟩
 ·obtain rfl:xs=[]:=List.eq_nil_of_length_eq_zero (by simpa using hown.1)
  obtain⟨v',w',r1,r2,r3,_⟩:=run_append_own (P:=P) w w.heap.size t ty e i z size bytes ht hi hz hsize hby hzs hsz (.slice none 0 0) 0 [] (World.ownsRow_nil w _ e size) a m c news hl hnews h1 h63 hbytes (Nat.le_refl _)
  exact⟨v',w',r1,(mono r2).1, .inr ⟨r3,(mono r2).2⟩⟩
 ·by_cases hroom:n+m<=cap
  ·obtain⟨w',r1,r2,r3⟩:=run_append_fits (P:=P) w base t ty e i size ht hi hsize g n cap xs hown a m c news hl hnews h1 hroom
   exact⟨_,w',r1,r2, .inl ⟨rfl,r3⟩⟩
  ·have hcells:∀j u,xs[j]? =some u->w.cell? ((⟨g,0,none⟩:Addr).add j)=some u:=hown.cells rfl
   obtain⟨v',w',r1,r2,r3⟩:=run_append_arg_grows (P:=P) w t ty e i z size bytes ht hi hz hsize hby hzs hsz ⟨g,0,none⟩ n cap xs hown.1 hcells a m c news hl hnews (by omega) h63 hbytes
   exact⟨v',w',r1,(mono r2).1, .inr ⟨r3,(mono r2).2⟩⟩
theorem wpList_append_row2{P:Program}(w:World){ops:Array Oper}{rest:List Oper}{o:Oper}{a:Act}{Q:Exit->Act->World->Prop}(hgd:o.guard=none)(s x:Operand)(t:TypeId)
 (ho:o.op= .call {callee:= .builtin .append,args:= #[s,x],argTypes:= #[t,t]})
 (base:Nat) (e:TypeId) (i:TypeInfo) (z:Value) (size bytes:Nat) (ht:P.underlying t=some (.slice e)) (hi:P.info? e=some i) (hz:i.zero=some z)
 (hsize:i.size=size) (hby:i.bytes=bytes) (hzs:z.cells.size=size) (hsz:0<size)
 (v:Value) (n:Nat) (xs:List Value) (hs:a.eval s=v) (hown:w.ownsRow base e size v n xs)
 (ad:Addr) (m c:Nat) (news:List Value) (hx:a.eval x= .slice (some ad) m c) (hl:news.length=m*size) (hnews:∀j u,news[j]? =some u->w.cell? (ad.add j)=some u) (h1:∀u∈news,u.oneCell'=true)
 (h63:n+m<=maxLen) (hbytes:(n+m)*bytes<=140737488355328) (hbase:base<=w.heap.size)
 (h:∀v' w',w'.ownsRow base e size v' (n+m) (xs++news)->jP w w' v v'->wpList P ops Q rest (a.put o.dst v') w'):wpList P ops Q (o::rest) a w:=by
 refine wpList_plain hgd fun K hK=>?_
 obtain⟨v',w',hrun,r1,r2⟩:=wj (P:=P) w base t o.type e i z size bytes ht hi hz hsize hby hzs hsz v n xs hown ad m c news hl hnews h1 h63 hbytes hbase
 unfold Oper.wp
 simp[execOp,ho,resolve,invoke,builtin,hs,hx,hrun,Result.andThen]
 exact hK _ _ (h v' w' r1 r2)
theorem jP.by{w w':World}{v v':Value}(h:jP w w' v v'):w.grownBy w' v.ownBlock:=by
 rcases h with h|h
 ·exact h.2
 ·exact⟨h.1.os,h.1.tape,h.1.output,h.1.size,fun k hk _=>h.1.block k hk (by simp)⟩
structure Th where
 v:Value
 e:TypeId
 size:Nat
 n:Nat
 xs:List Value
structure Thg (w:World) (B K:Nat) (F:Nat->Th):Prop where
 own:∀j,j<K->w.ownsRow B (F j).e (F j).size (F j).v (F j).n (F j).xs
 sep:∀i j,i<K->j<K->i≠j->∀g,(F i).v.ownBlock=some g->(F j).v.ownBlock≠some g
theorem Thg.kin{w w':World}{B K:Nat}{F:Nat->Th}(h:Thg w B K F)(k:Kin w w'):Thg w' B K F:=⟨fun j hj=>owns_kin (h.own j hj) k,h.sep⟩
theorem Thg.upd{w w':World}{B K:Nat}{F:Nat->Th}(h:Thg w B K F){i:Nat}(hi:i<K){t:Th}(hg:jP w w' (F i).v t.v)(ho:w'.ownsRow B t.e t.size t.v t.n t.xs):Thg w' B K (fun j=>if j=i then t else F j):=by
 have hby:=hg.by
 have key:∀j,j<K->j≠i->∀g,(F j).v.ownBlock=some g->t.v.ownBlock≠some g:=by
  intro j hj hne g hgj e
  rcases hg with⟨h1,_⟩|⟨_,h2⟩
  ·rw[h1] at e
   exact h.sep j i hj hi hne g hgj e
  ·have:=h2 g e
   have:=((h.own j hj).lt g hgj).2
   omega
 refine⟨fun j hj=>?_,fun a b ha hb hab g hga hgb=>?_⟩
 ·by_cases e:j=i
  ·subst e
   simpa using ho
  ·simp only[if_neg e]
   refine(h.own j hj).kept hby ?_
   cases hb:(F j).v.ownBlock with
   |none=>exact .inl rfl
   |some g=>
    right
    intro e2
    exact h.sep j i hj hi e g hb e2.symm
 ·by_cases e1:a=i
  ·subst e1
   simp only[if_true,if_neg (Ne.symm hab)] at hga hgb
   exact key b hb (Ne.symm hab) g hgb hga
  ·by_cases e2:b=i
   ·subst e2
    simp only[if_true,if_neg e1] at hga hgb
    exact key a ha e1 g hga hgb
   ·simp only[if_neg e1,if_neg e2] at hga hgb
    exact h.sep a b ha hb hab g hga hgb
theorem NodesAt.kept{w w':World}{v:Value}{l:List Nd}{row:Option Nat}(h:NodesAt w v l)(hg:w.grownBy w' row)(hne:∀g,v.ownBlock=some g->row≠some g):NodesAt w' v l:=by
 obtain⟨b,cap,h1,h2,h3⟩:=h
 refine⟨b,cap,h1,h2,fun hl=>?_⟩
 obtain⟨g,off,h4,h5⟩:=h3 hl
 refine⟨g,off,h4,fun j n hj x c hc=>?_⟩
 exact hg.cell (h5 j n hj x c hc) (fun e=>hne g (by rw[h1,h4];rfl) e.symm)
theorem NodesAt.front{w w1:World}{B n n':Nat}{v x:Value}{l m:List Nd}{xs:List Value}(hform:w1.ownsRow B 50 6 v n xs)(hn:l.length=n)(hb:x.ownBlock=v.ownBlock)(ho:w.ownsRow B 50 6 x n' (ndCells (l++m))):NodesAt w v l:=by
 rcases hform.2 with⟨rfl,h0⟩|⟨g,cap,cur,rfl,_,_,hc,_⟩
 ·exact⟨none,0,by rw[hn,h0],by omega,fun hl=>absurd (List.eq_nil_of_length_eq_zero (by omega)) hl⟩
 ·refine⟨_,cap,by rw[hn],by omega,fun _=>⟨g,0,rfl,fun j nd hj k c hk=>?_⟩⟩
  have hk6:k<6:=by have:=(List.getElem?_eq_some_iff.1 hk).1;simpa [Nd.cells] using this
  have hj2:(l++m)[j]? =some nd:=by rw[List.getElem?_append_left (List.getElem?_eq_some_iff.1 hj).1];exact hj
  rcases ho.2 with⟨rfl,_⟩|⟨g',cap',cur',rfl,_⟩
  ·simp[Value.ownBlock] at hb
  ·simp[Value.ownBlock] at hb
   subst hb
   have:=ho.cells rfl (j*6+k) c ((nd_get hj2 k hk6).trans hk)
   rw[show((⟨g',0,none⟩:Addr).add (j*6+k))=⟨g',j*6+k,none⟩ from by unfold Addr.add;split<;>simp_all] at this
   rw[show 0+j*6+k=j*6+k from by omega]
   exact this
def lngL(k n i:Nat):List Nd:=markL k n++List.replicate i (behN k)
theorem ze8(k n i:Nat):ndCells (lngL k n (i+1))=ndCells (lngL k n i)++(behN k).cells:=by
 unfold lngL
 rw[List.replicate_succ',<-List.append_assoc,xb,zaX]
def OldV(w:World)(vs:List Value)(f:Nat->List Nd):Prop:=∀(j:Nat) v,vs[j]? =some v->NodesAt w v (markL j (f j).length)
theorem OldV.kin{w w':World}{vs:List Value}{f:Nat->List Nd}(h:OldV w vs f)(k:Kin w w'):OldV w' vs f:=fun j v hv=>(h j v hv).kin k
theorem OldV.step{w1 w w':World}{B N k n' i:Nat}{vs:List Value}{f:Nat->List Nd}{v x x':Value}(h:OldV w vs f)(hs:Sep vs)(hN:∀(j:Nat) v b,vs[j]? =some v->v.ownBlock=some b->b<N)(hv:vs[k]? =some v)(hform:w1.ownsRow B 50 6 v (f k).length (ndCells (markL k (f k).length)))(hxb:x.ownBlock=v.ownBlock\/∀g,x.ownBlock=some g->N<=g)(hg:jP w w' x x')(ho:w'.ownsRow B 50 6 x' n' (ndCells (lngL k (f k).length i))):OldV w' vs f:=by
 intro j u hu
 rcases hg with⟨h1,h2⟩|⟨h1,_⟩
 ·rcases hxb with e|e
  ·by_cases hj:j=k
   ·subst hj
    rw[hv] at hu
    cases hu
    exact NodesAt.front hform (by simp[markL]) (h1.trans e) ho
   ·refine(h j u hu).kept h2 fun g hg e2=>?_
    rw[e] at e2
    exact hs j k u v g hj hu hv hg e2
  ·refine(h j u hu).kept h2 fun g hg e2=>?_
   have:=hN j u g hu hg
   have:=e g e2
   omega
 ·exact(h j u hu).kept h1 (fun g _=>by simp)
theorem zib{w w':World}{N:Nat}{v x x':Value}(hxb:x.ownBlock=v.ownBlock\/∀g,x.ownBlock=some g->N<=g)(hg:jP w w' x x')(hN:N<=w.heap.size):x'.ownBlock=v.ownBlock\/∀g,x'.ownBlock=some g->N<=g:=by
 rcases hg with⟨h1,_⟩|⟨_,h1⟩
 ·rw[h1];exact hxb
 ·exact .inr fun g hg=>Nat.le_trans hN (h1 g hg)
theorem OldV.other{w w':World}{N:Nat}{vs:List Value}{f:Nat->List Nd}{x x':Value}(h:OldV w vs f)(hN:∀(j:Nat) v b,vs[j]? =some v->v.ownBlock=some b->b<N)(hx:∀g,x.ownBlock=some g->N<=g)(hg:jP w w' x x'):OldV w' vs f:=by
 intro j u hu
 refine(h j u hu).kept hg.by fun g hg e2=>?_
 have:=hN j u g hu hg
 have:=hx g e2
 omega
theorem ziF{w w':World}{N:Nat}{x x':Value}(hx:∀g,x.ownBlock=some g->N<=g)(hg:jP w w' x x')(hN:N<=w.heap.size):∀g,x'.ownBlock=some g->N<=g:=by
 rcases hg with⟨h1,_⟩|⟨_,h1⟩
 ·rw[h1];exact hx
 ·exact fun g hg=>Nat.le_trans hN (h1 g hg)
theorem newc(w:World)(cs:Array Value)(e:TypeId)(l:List Value)(hl:cs.toList=l):∀(j:Nat) (u:Value),l[j]? =some u->(w.alloc (.cells cs e)).cell? ((⟨w.heap.size,0,none⟩:Addr).add j)=some u:=by
 intro j u hu
 have h:=heap_alloc_new w (.cells cs e)
 rw[show((⟨w.heap.size,0,none⟩:Addr).add j)=⟨w.heap.size,j,none⟩ from by unfold Addr.add;split<;>simp_all]
 unfold World.cell?
 rw[h]
 rw[<-hl] at hu
 simpa using hu
theorem zfn:(Tryz.prog.info? 25).map (fun i=>(i.zero,i.size,i.bytes))=some (some (.slice none 0 0),1,24):=by kernel_rfl
def Gt(vs:List Value)(f:Nat->List Nd)(lv lg:Value)(m:Nat)(ws:Nat->Value)(k:Nat)(x:Value)(i:Nat):Nat->Th
 |0=>⟨lv,25,1,vs.length,vs⟩
 |1=>⟨lg,25,1,m,(List.range m).map ws⟩
 |j+2=>if j<k then ⟨ws j,50,6,(f j).length+20,ndCells (lngL j (f j).length 20)⟩ else if j=k then ⟨x,50,6,(f k).length+i,ndCells (lngL k (f k).length i)⟩ else ⟨vs.getD j (.slice none 0 0),50,6,(f j).length,ndCells (markL j (f j).length)⟩
theorem zjg(vs:List Value)(f:Nat->List Nd)(lv lg:Value)(m:Nat)(ws:Nat->Value)(k:Nat)(x x':Value)(i:Nat):(fun j=>if j=k+2 then (⟨x',50,6,(f k).length+(i+1),ndCells (lngL k (f k).length (i+1))⟩:Th) else Gt vs f lv lg m ws k x i j)=Gt vs f lv lg m ws k x' (i+1):=by
 funext j
 match j with
 |0=>rfl
 |1=>rfl
 |j+2=>
  by_cases e:j=k
  ·subst e
   simp[Gt]
  ·have:¬(j+2=k+2):=by omega
   simp only[if_neg this]
   simp only[Gt,if_neg e]
theorem zjh(vs:List Value)(f:Nat->List Nd)(lv lg lg':Value)(ws:Nat->Value)(k:Nat)(x:Value):(fun j=>if j=1 then (⟨lg',25,1,k+1,(List.range k).map ws++[x]⟩:Th) else Gt vs f lv lg k ws k x 20 j)=Gt vs f lv lg' (k+1) (fun j=>if j=k then x else ws j) (k+1) (vs.getD (k+1) (.slice none 0 0)) 0:=by
 funext j
 match j with
 |0=>rfl
 |1=>
  simp only[if_true,Gt,List.range_succ,List.map_append,List.map_cons,List.map_nil]
  congr 2
  refine List.map_congr_left fun a ha=>?_
  have:=List.mem_range.1 ha
  rw[if_neg (by omega)]
 |j+2=>
  have:¬(j+2=1):=by omega
  simp only[if_neg this,Gt]
  by_cases h1:j<k
  ·rw[if_pos h1,if_pos (by omega),if_neg (by omega)]
  ·by_cases h2:j=k
   ·subst h2
    rw[if_neg h1,if_pos rfl,if_pos (by omega),if_pos rfl]
   ·rw[if_neg h1,if_neg h2,if_neg (by omega)]
    split
    ·rename_i h3
     subst h3
     simp[lngL]
    ·rfl
theorem Gt_first{w:World}{B:Nat}{vs:List Value}{f:Nat->List Nd}{lv:Value}(hl:w.ownsRow B 25 1 lv vs.length vs)(hr:qa w B vs (z8 f vs.length 0))(hs:Sep vs)(hls:∀(k:Nat) v b,vs[k]? =some v->v.ownBlock=some b->lv.ownBlock≠some b)(ws:Nat->Value):Thg w B (vs.length+2) (Gt vs f lv (.slice none 0 0) 0 ws 0 (vs.getD 0 (.slice none 0 0)) 0):=by
 have e:∀j,Gt vs f lv (.slice none 0 0) 0 ws 0 (vs.getD 0 (.slice none 0 0)) 0 (j+2)=⟨vs.getD j (.slice none 0 0),50,6,(f j).length,ndCells (markL j (f j).length)⟩:=by
  intro j
  simp only[Gt,Nat.not_lt_zero,if_false]
  split
  ·rename_i h;subst h;simp[lngL]
  ·rfl
 have hv:∀j,j<vs.length->vs[j]? =some (vs.getD j (.slice none 0 0)):=by
  intro j hj
  simp[List.getD_eq_getElem?_getD,List.getElem?_eq_getElem hj]
 refine⟨fun j hj=>?_,fun a b ha hb hab g hga hgb=>?_⟩
 ·match j with
  |0=>exact hl
  |1=>exact World.ownsRow_nil w B 25 1
  |j+2=>
   rw[e]
   have:=hr j _ (hv j (by omega))
   rw[qo f vs.length 0 (Nat.zero_le _) j] at this
   have e2:z8 f vs.length 0 j=markL j (f j).length:=by unfold z8;rw[if_pos (by omega)]
   rw[e2] at this
   exact this
 ·match a,b with
  |0,0=>exact hab rfl
  |0,1=>simp[Gt,Value.ownBlock] at hgb
  |1,b=>simp[Gt,Value.ownBlock] at hga
  |0,b+2=>rw[e] at hgb;exact hls b _ g (hv b (by omega)) hgb hga
  |a+2,0=>rw[e] at hga;exact hls a _ g (hv a (by omega)) hga hgb
  |a+2,1=>simp[Gt,Value.ownBlock] at hgb
  |a+2,b+2=>rw[e] at hga hgb;exact hs a b _ _ g (by omega) (hv a (by omega)) (hv b (by omega)) hga hgb
theorem add0(g k:Nat):(⟨g,0,none⟩:Addr).add k=⟨g,k,none⟩:=by unfold Addr.add;split<;>simp_all
theorem cl_kin{w w':World}{g x:Nat}{v:Value}(K:Kin w w')(h:w.cell? ⟨g,x,none⟩=some v):w'.cell? ⟨g,x,none⟩=some v:=(K.cell (World.block_lt_of_cell? w ⟨g,x,none⟩ h)).trans h
theorem zC{w:World}{o:Obj}{g x:Nat}{v:Value}(h:w.cell? ⟨g,x,none⟩=some v):(w.alloc o).cell? ⟨g,x,none⟩=some v:=cl_kin ((Kin.refl w).alloc o) h
theorem zg9{k n i:Nat}(hi:i<n):(lngL k n 20)[i]? =some (markN k i):=by
 unfold lngL markL
 rw[List.getElem?_append_left (by simpa using hi)]
 simp[hi]
theorem ziE{k n i:Nat}(hi:n<=i)(h:i<n+20):(lngL k n 20)[i]? =some (behN k):=by
 unfold lngL markL
 rw[List.getElem?_append_right (by simpa using hi),List.getElem?_replicate,if_pos (by simp;omega)]
theorem yu{w:World}{B g cap n:Nat}{L:List Nd}(h:w.ownsRow B 50 6 (.slice (some ⟨g,0,none⟩) n cap) n (ndCells L)){i:Nat}{u:Nd}(hu:L[i]? =some u)(x:Nat)(v:Value)(hx:x<6)(hv:u.cells[x]? =some v):w.cell? ⟨g,i*6+x,none⟩=some v:=by
 have:=h.cells rfl (i*6+x) v ((nd_get hu x hx).trans hv)
 rw[show((⟨g,0,none⟩:Addr).add (i*6+x))=⟨g,i*6+x,none⟩ from by unfold Addr.add;split<;>simp_all] at this
 exact this
section
variable {P:Program} {md:Region.Mode} {ops:Array Oper} {Q:Exit->Act->World->Prop} {S:World->Prop} {fuel:Nat} {oi:Oper} {v:Value} {listed:Array Bool} {a:Act} {w:World}
theorem tk(i:Nat){a':Act}(h:wpAnyH P md ops Q S fuel (listed.setIfInBounds i true) a' w)(hi:ops[i]? =some oi:=by(simp only[List.getElem?_toArray,List.getElem?_cons_succ,List.getElem?_cons_zero];try exact rfl))
 (hs:Region.noSelect ops=true:=by kernel_rfl) (hf:Region.free md ops listed i=true:=by kernel_rfl) (hr:(Region.ready md ops listed).contains i=true:=by kernel_rfl)
 (hQ:∀c a w,Q (.panic c) (a.put oi.dst v) w->Q (.panic c) a w:=by exact fun _ _ _ h=>h) (hw:Region.wanted oi (yielded ops a.tmps)=true:=by rfl)
 (hy:∀w,S w->(execOp a.eval oi).run P w= .ok (.value v) w:=by(intro w hSw;(try dsimp only at hSw);go_simp;try with_reducible rfl)) (hS:S w:=by assumption)
 (ha:a.put oi.dst v=a':=by((conv=>lhs;simp only[Act.put,List.setIfInBounds_toArray,List.set_cons_zero,List.set_cons_succ]);try exact rfl)):wpAnyH P md ops Q S (fuel+1) listed a w:=
 wpAnyH_take hi hs hf hr hQ (.inl ⟨hw,hy⟩) hS (by rw[ha];exact h)
theorem tu(i:Nat){a':Act}(h:wpAnyH P md ops Q S fuel (listed.setIfInBounds i true) a' w)(hi:ops[i]? =some oi:=by(simp only[List.getElem?_toArray,List.getElem?_cons_succ,List.getElem?_cons_zero];try exact rfl))
 (hs:Region.noSelect ops=true:=by kernel_rfl) (hf:Region.free md ops listed i=true:=by kernel_rfl) (hr:(Region.ready md ops listed).contains i=true:=by kernel_rfl)
 (hQ:∀c a w,Q (.panic c) (a.put oi.dst undef) w->Q (.panic c) a w:=by exact fun _ _ _ h=>h) (hw:Region.wanted oi (yielded ops a.tmps)=false:=by rfl) (hS:S w:=by assumption)
 (ha:a.put oi.dst undef=a':=by((conv=>lhs;simp only[Act.put,List.setIfInBounds_toArray,List.set_cons_zero,List.set_cons_succ]);try exact rfl)):wpAnyH P md ops Q S (fuel+1) listed a w:=
 wpAnyH_take hi hs hf hr hQ (.inr ⟨hw,rfl⟩) hS (by rw[ha];exact h)
end
theorem za6{w w':World}(h:Kin w w'):Kin w w'.drew:=⟨h.os,h.out,h.size,h.block⟩
theorem zfD(vs:List Value)(f:Nat->List Nd)(lv:Value)(B:Nat)(w:World)(hB:B<=w.heap.size)(hl:w.ownsRow B 25 1 lv vs.length vs)(hrow:qa w B vs f)(hsep:Sep vs)(hlsep:∀(k:Nat) v b,vs[k]? =some v->v.ownBlock=some b->lv.ownBlock≠some b)(hK:vs.length<=1000)(hlen:∀(k:Nat) v,vs[k]? =some v->(f k).length<=300):
 Calls Tryz.prog 17 #[lv] w fun e w'=>e= .returned (.bool true)/\Below B w w':=by
 have HROW:=Lib.hid hrow
 have HSEP:=Lib.hid hsep
 have HLS:=Lib.hid hlsep
 have HLEN:=Lib.hid hlen
 have HL:=Lib.hid hl
 obtain⟨lb,lc,rfl⟩:=xe hl
 clear hrow hsep hlsep hlen hl
 go_enter Tryz.func17,Tryz.ntmps17
 go_wp2_with fail
 go_loopg [3] vs.length (fun gg x wr=>∃k:Nat,x= .int .i64 k/\k<=vs.length/\gg=vs.length-k/\Below B w wr/\wr.ownsRow B 25 1 (.slice lb vs.length lc) vs.length vs/\qa wr B vs (z8 f k 0))
 case atStart=>exact⟨0,rfl,Nat.zero_le _,rfl,Below.refl _ _,HL.out,by rw[markF_zero];exact HROW.out⟩
 case round=>
  obtain⟨k,rfl,hk,hgg,hBel,hL,hR⟩:=hrel
  have HG:=Lib.hid hgg
  have HBE:=Lib.hid hBel
  have HL1:=Lib.hid hL
  have HR:=Lib.hid hR
  clear hgg hBel hL hR
  by_cases hlt:k<vs.length
  ·obtain⟨v,hv⟩:∃v,vs[k]? =some v:=⟨_,List.getElem?_eq_getElem hlt⟩
   obtain⟨gl,rfl⟩:∃gl,lb=some ⟨gl,0,none⟩:=by
    rcases HL1.out.2 with⟨h1,h2⟩|⟨g',cap,cur,h1,_⟩
    ·omega
    ·exact⟨g',by simp at h1;exact h1.1⟩
   have hcl:wr.cell? ⟨gl,k,none⟩=some v:=by
    have:=HL1.out.cells rfl k v hv
    rw[add0] at this
    exact this
   have hvo:=HR.out k v hv
   rw[qo f k 0 (Nat.zero_le _) k] at hvo
   obtain⟨vb,vc,rfl⟩:=xe hvo
   have HV:=Lib.hid hv
   have hn:=HLEN.out k _ hv
   generalize hnn:(f k).length=n at*
   have HNN:=Lib.hid hnn
   clear hvo hv hnn
   go_wp2_with fail
   go_loopg [4] n (fun gg x wr=>∃i:Nat,x= .int .i64 i/\i<=n/\gg=n-i/\Below B w wr/\wr.ownsRow B 25 1 (.slice (some ⟨gl,0,none⟩) vs.length lc) vs.length vs/\qa wr B vs (z8 f k i))
   case atStart=>exact⟨0,rfl,Nat.zero_le _,rfl,HBE.out,HL1.out,HR.out⟩
   case round=>
    obtain⟨i,rfl,hi,hgg,hBel,hL,hR⟩:=hrel
    clear HBE HL1 HR hcl
    have HG2:=Lib.hid hgg
    have HBE:=Lib.hid hBel
    have HL1:=Lib.hid hL
    have HR:=Lib.hid hR
    clear hgg hBel hL hR
    have hcl:wr.cell? ⟨gl,k,none⟩=some (.slice vb n vc):=by
     have:=HL1.out.cells rfl k _ HV.out
     rw[add0] at this
     exact this
    by_cases hli:i<n
    ·have hvo:=HR.out k _ HV.out
     rw[qo f k i (by rw[HNN.out];exact hi) k,HNN.out] at hvo
     obtain⟨gv,rfl⟩:=(show ∃gv,vb=some ⟨gv,0,none⟩ from by
      rcases hvo.2 with⟨h1,h2⟩|⟨g',cap,cur,h1,_⟩
      ·omega
      ·exact⟨g',by simp at h1;exact h1.1⟩)
     have f0:=hvo.frozenAt (i*6)
     have f1:=hvo.frozenAt (i*6+1)
     have f2:=hvo.frozenAt (i*6+2)
     have f3:=hvo.frozenAt (i*6+3)
     have f4:=hvo.frozenAt (i*6+4)
     have f5:=hvo.frozenAt (i*6+5)
     have hgv:=(hvo.lt gv rfl).2
     have hgl:=(HL1.out.lt gl rfl).2
     have hne:=HLS.out k _ gv HV.out rfl
     have hgne:¬gl=gv:=fun e=>hne (by rw[e];rfl)
     have HVO:=Lib.hid hvo
     obtain⟨nd,hnd⟩:∃nd,(z8 f k i k)[i]? =some nd:=⟨_,List.getElem?_eq_getElem (by rw[qo f k i (by rw[HNN.out];exact hi) k,HNN.out];exact hli)⟩
     have hvo':wr.ownsRow B 50 6 (.slice (some ⟨gv,0,none⟩) (z8 f k i k).length vc) (z8 f k i k).length (ndCells (z8 f k i k)):=by
      rw[qo f k i (by rw[HNN.out];exact hi) k,HNN.out];exact hvo
     have d0:=xM hvo' hnd 0 _ (by omega) rfl
     have d1:=xM hvo' hnd 1 _ (by omega) rfl
     have d2:=xM hvo' hnd 2 _ (by omega) rfl
     have d3:=xM hvo' hnd 3 _ (by omega) rfl
     have d4:=xM hvo' hnd 4 _ (by omega) rfl
     have d5:=xM hvo' hnd 5 _ (by omega) rfl
     rw[Nat.add_zero] at d0
     clear hvo hvo' hnd hne
     go_wp2_with fail
     go_region_with (go_at_call 49;refine(uL k i (by omega) _).mono ?_;rintro e w4 ⟨rfl,rfl⟩)
     all_goals (
      go_wp2_with fail
      go_roundg (n-(i+1))
      case measure=>have:=HG2.out;omega
      case rel=>
       refine⟨i+1,by simp,by omega,rfl,zfy (HBE.out.grown (putNd_grown wr gv i (markN k i)) (Nat.le_trans hB HBE.out.size) (fun b hb=>by cases hb;exact(HVO.out.lt gv rfl).1)) ?_ _,owns_kin (HL1.out.kept (putNd_grown wr gv i (markN k i)) (.inr (fun e=>hgne (by simpa [Value.ownBlock] using e)))) (zcH _ _),(qa.put HR.out HSEP.out HV.out HNN.out hli).kin (zcH _ _)⟩
       exact Nat.le_trans hB (Nat.le_trans HBE.out.size (putNd_grown wr gv i (markN k i)).size))
    ·obtain rfl:i=n:=by omega
     go_wp2_with fail
     go_roundg (vs.length-(k+1))
     case measure=>have:=HG.out;omega
     case rel=>
      refine⟨k+1,by simp,by omega,rfl,HBE.out,HL1.out,?_⟩
      have:=HR.out
      rw[<-HNN.out,markF_next] at this
      exact this
  ·obtain rfl:k=vs.length:=by omega
   obtain⟨ti,hi,hz0,hz1,hz2⟩:=info_parts kN
   obtain⟨tj,hj,hy0,hy1,hy2⟩:=info_parts zfn
   have HFM:Hid (∀(j:Nat) (v:Value),vs[j]? =some v->wr.ownsRow B 50 6 v (f j).length (ndCells (markL j (f j).length))):=Lib.hid (fun j v hv=>by
    have:=HR.out j v hv
    rw[qo f vs.length 0 (Nat.zero_le _) j] at this
    have e2:z8 f vs.length 0 j=markL j (f j).length:=by unfold z8;rw[if_pos ((List.getElem?_eq_some_iff.1 hv).1)]
    rw[e2] at this
    exact this)
   have HVN:Hid (∀(j:Nat) (v:Value) (b:Nat),vs[j]? =some v->v.ownBlock=some b->b<wr.heap.size):=Lib.hid (fun j v b hv hb=>((HFM.out j v hv).lt b hb).2)
   have HOLD:Hid (OldV wr vs f):=Lib.hid (fun j v hv=>NodesAt.of_owns (by have:=HFM.out j v hv;rw[show(markL j (f j).length).length=(f j).length from by simp[markL]];exact this))
   have HT:=Lib.hid (Gt_first HL1.out HR.out HSEP.out HLS.out (fun _=> .slice none 0 0))
   have HBE1:=HBE
   clear HR HL1 HG HBE
   rename World=>w1
   go_wp2_with fail
   go_loopg [5,6] vs.length (fun gg x y wr=>∃(k:Nat) (ws:Nat->Value) (lg:Value),lg=x/\y= .int .i64 k/\k<=vs.length/\gg=vs.length-k/\Below B w wr/\w1.heap.size<=wr.heap.size/\Thg wr B (vs.length+2) (Gt vs f (.slice lb vs.length lc) x k ws k (vs.getD k (.slice none 0 0)) 0)/\OldV wr vs f/\(∀g,x.ownBlock=some g->w1.heap.size<=g))
   case atStart=>exact⟨0,_,_,rfl,rfl,Nat.zero_le _,rfl,HBE1.out,Nat.le_refl _,HT.out,HOLD.out,fun g hg=>by simp[Value.ownBlock] at hg⟩
   case round=>
    clear HT HOLD HBE1
    obtain⟨k,ws,lg,rfl,rfl,hk,hgg,hBel,hN,hT,hO,hlg⟩:=hrel
    have HG:=Lib.hid hgg
    have HBE:=Lib.hid hBel
    have HN:=Lib.hid hN
    have HT:=Lib.hid hT
    have HO:=Lib.hid hO
    have HLG:=Lib.hid hlg
    clear hgg hBel hN hT hO hlg
    by_cases hlt:k<vs.length
    ·obtain⟨v,hv⟩:∃v,vs[k]? =some v:=⟨_,List.getElem?_eq_getElem hlt⟩
     have hls:=HT.out.own 0 (by omega)
     simp only[Gt] at hls
     obtain⟨gl,rfl⟩:∃gl,lb=some ⟨gl,0,none⟩:=by
      rcases hls.2 with⟨h1,h2⟩|⟨g',cap,cur,h1,_⟩
      ·omega
      ·exact⟨g',by simp at h1;exact h1.1⟩
     have hcl:wr.cell? ⟨gl,k,none⟩=some v:=by
      have:=hls.cells rfl k v hv
      rw[add0] at this
      exact this
     have hgd:vs.getD k (.slice none 0 0)=v:=by simp[List.getD_eq_getElem?_getD,hv]
     rw[hgd] at HT
     obtain⟨vb,vc,rfl⟩:=xe (HFM.out k v hv)
     have HV:=Lib.hid hv
     clear hls hgd hv
     go_wp2_with fail
     go_loopg [7,8] 20 (fun gg z y wr=>∃(i:Nat) (z0:Value),z0=z/\y= .int .i64 i/\i<=20/\gg=20-i/\Below B w wr/\w1.heap.size<=wr.heap.size/\Thg wr B (vs.length+2) (Gt vs f (.slice (some ⟨gl,0,none⟩) vs.length lc) lg k ws k z i)/\OldV wr vs f/\(z.ownBlock=(Value.slice vb (f k).length vc).ownBlock\/∀g,z.ownBlock=some g->w1.heap.size<=g))
     case atStart=>exact⟨0,_,rfl,rfl,Nat.zero_le _,rfl,HBE.out,HN.out,HT.out,HO.out, .inl rfl⟩
     case round=>
      clear HBE HN HT HO hcl
      obtain⟨i,z,rfl,rfl,hi20,hgg,hBel,hN,hT,hO,hxb⟩:=hrel
      have HG2:=Lib.hid hgg
      have HBE:=Lib.hid hBel
      have HN:=Lib.hid hN
      have HT:=Lib.hid hT
      have HO:=Lib.hid hO
      have HXB:=Lib.hid hxb
      clear hgg hBel hN hT hO hxb
      have hx0:=HT.out.own (k+2) (by omega)
      simp only[Gt,Nat.lt_irrefl,if_false,if_true] at hx0
      have hf3:=HLEN.out k _ HV.out
      by_cases hli:i<20
      ·have HX0:=Lib.hid hx0
       have HF3:=Lib.hid hf3
       clear hx0 hf3
       have HX:Hid (((wr.alloc (.cells #[.int .i64 (-1000-k), .int .i64 0, .string ⟨#[]⟩, .int .i64 0, .int .i64 0, .int .i64 0] 50)).alloc (.cells #[.int .i64 (-1000-k), .int .i64 0, .string ⟨#[]⟩, .int .i64 0, .int .i64 0, .int .i64 0] 50)).ownsRow B 50 6 z ((f k).length+i) (ndCells (lngL k (f k).length i))):=Lib.hid (owns_kin HX0.out (((Kin.refl wr).alloc _).alloc _))
       go_wp2_with (first|(go_at_call 50;refine(zam k (by omega) _).mono ?_;rintro e w2 ⟨rfl,rfl⟩)|(at_builtin;refine wpList_append_row2 _ rfl (.tmp 50) (.tmp 53) 25 rfl B 50 ti _ 6 56 Tryz.underlying25 hi hz0 hz1 hz2 rfl (by decide) _ _ _ rfl HX.out ⟨wr.heap.size+1,0,none⟩ 1 1 (behN k).cells rfl rfl (by have:=newc (wr.alloc (.cells #[.int .i64 (-1000-k), .int .i64 0, .string ⟨#[]⟩, .int .i64 0, .int .i64 0, .int .i64 0] 50)) #[.int .i64 (-1000-k), .int .i64 0, .string ⟨#[]⟩, .int .i64 0, .int .i64 0, .int .i64 0] 50 (behN k).cells rfl;simpa using this) (by intro u hu;simp[Nd.cells,behN] at hu;rcases hu with rfl|rfl|rfl|rfl|rfl|rfl<;>rfl) (by have:=HF3.out;unfold maxLen;omega) (by have:=HF3.out;omega) (by have:=HBE.out.size;simp;omega) ?_;intro v2 w2 hown2 hgrow2))
       have K2:Kin wr ((wr.alloc (.cells #[.int .i64 (-1000-k), .int .i64 0, .string ⟨#[]⟩, .int .i64 0, .int .i64 0, .int .i64 0] 50)).alloc (.cells #[.int .i64 (-1000-k), .int .i64 0, .string ⟨#[]⟩, .int .i64 0, .int .i64 0, .int .i64 0] 50)):=((Kin.refl wr).alloc _).alloc _
       have hz1':=K2.size
       have hown3:w2.ownsRow B 50 6 v2 ((f k).length+(i+1)) (ndCells (lngL k (f k).length (i+1))):=by rw[ze8];exact hown2
       go_roundg (20-(i+1))
       case measure=>have:=HG2.out;omega
       case rel=>
        have hT2:=(HT.out.kin K2).upd (i:=k+2) (by omega) (t:=⟨v2,50,6,(f k).length+(i+1),ndCells (lngL k (f k).length (i+1))⟩) (by simp only[Gt,Nat.lt_irrefl,if_false,if_true];exact hgrow2) hown3
        rw[zjg] at hT2
        refine⟨i+1,_,rfl,by simp,by omega,rfl,(((HBE.out.alloc (Nat.le_trans hB HBE.out.size) _).alloc (Nat.le_trans hB (Nat.le_trans HBE.out.size (by simp))) _).grown hgrow2.by (by have:=HBE.out.size;omega) (fun b hb=>(HX.out.lt b hb).1)),Nat.le_trans HN.out (Nat.le_trans hz1' hgrow2.by.size),hT2,(HO.out.kin K2).step HSEP.out HVN.out HV.out (HFM.out k _ HV.out) HXB.out hgrow2 hown3,zib HXB.out hgrow2 (Nat.le_trans HN.out hz1')⟩
      ·obtain rfl:i=20:=by omega
       obtain⟨zb,zc,rfl⟩:=xe hx0
       have hlo:=HT.out.own 1 (by omega)
       simp only[Gt] at hlo
       have HL1:=Lib.hid hlo
       have HX0:=Lib.hid hx0
       clear hx0 hlo
       have HL2:Hid ((wr.alloc (.cells #[.slice zb ((f k).length+20) zc] 25)).ownsRow B 25 1 lg k ((List.range k).map ws)):=Lib.hid (owns_kin HL1.out ((Kin.refl wr).alloc _))
       go_wp2_with (first|(at_builtin;refine wpList_append_row2 _ rfl (.tmp 55) (.tmp 57) 24 rfl B 25 tj _ 1 24 Tryz.underlying24 hj hy0 hy1 hy2 rfl (by decide) _ _ _ rfl HL2.out ⟨wr.heap.size,0,none⟩ 1 1 [.slice zb ((f k).length+20) zc] rfl rfl (newc wr _ _ _ rfl) (by intro u hu;simp at hu;subst hu;rfl) (by unfold maxLen;omega) (by omega) (by have:=HBE.out.size;simp;omega) ?_;intro v2 w2 hown2 hgrow2))
       have K2:Kin wr (wr.alloc (.cells #[.slice zb ((f k).length+20) zc] 25)):=(Kin.refl wr).alloc _
       have hz1':=K2.size
       go_roundg (vs.length-(k+1))
       case measure=>have:=HG.out;omega
       case rel=>
        have hT2:=(HT.out.kin K2).upd (i:=1) (by omega) (t:=⟨v2,25,1,k+1,(List.range k).map ws++[.slice zb ((f k).length+20) zc]⟩) hgrow2 hown2
        rw[zjh] at hT2
        exact⟨k+1,_,_,rfl,by simp,by omega,rfl,((HBE.out.alloc (Nat.le_trans hB HBE.out.size) _).grown hgrow2.by (by have:=HBE.out.size;omega) (fun b hb=>(HL2.out.lt b hb).1)),Nat.le_trans HN.out (Nat.le_trans hz1' hgrow2.by.size),hT2,(HO.out.kin K2).other HVN.out HLG.out hgrow2,ziF HLG.out hgrow2 (Nat.le_trans HN.out hz1')⟩
    ·obtain rfl:k=vs.length:=by omega
     have HT0:=HT
     have HO0:=HO
     have HBE0:=HBE
     clear HT HO HBE HG HLG HN HVN
     rename World=>w2
     go_wp2_with fail
     go_loopg [9] vs.length (fun gg y wr=>∃k:Nat,y= .int .i64 k/\k<=vs.length/\gg=vs.length-k/\Kin w2 wr/\Below B w wr)
     case atStart=>exact⟨0,rfl,Nat.zero_le _,rfl,Kin.refl _,HBE0.out⟩
     case round=>
      obtain⟨k,rfl,hk,hgg,hKI,hBel⟩:=hrel
      have HG:=Lib.hid hgg
      have HKI:=Lib.hid hKI
      have HBE:=Lib.hid hBel
      clear hgg hKI hBel HBE0
      by_cases hlt:k<vs.length
      ·obtain⟨v,hv⟩:∃v,vs[k]? =some v:=⟨_,List.getElem?_eq_getElem hlt⟩
       have hls:=HT0.out.own 0 (by omega)
       have hlg:=HT0.out.own 1 (by omega)
       have hus:=HT0.out.own (k+2) (by omega)
       simp only[Gt] at hls hlg
       simp only[Gt,if_pos hlt] at hus
       obtain⟨gl,rfl⟩:∃gl,lb=some ⟨gl,0,none⟩:=by
        rcases hls.2 with⟨h1,h2⟩|⟨g',cap,cur,h1,_⟩
        ·omega
        ·exact⟨g',by simp at h1;exact h1.1⟩
       obtain⟨gg,gc,rfl⟩:∃gg gc,lg= .slice (some ⟨gg,0,none⟩) vs.length gc:=by
        rcases hlg.2 with⟨h1,h2⟩|⟨g',cap,cur,h1,_⟩
        ·omega
        ·exact⟨g',cap,h1⟩
       obtain⟨gu,uc,hwk⟩:∃gu uc,ws k= .slice (some ⟨gu,0,none⟩) ((f k).length+20) uc:=by
        rcases hus.2 with⟨h1,h2⟩|⟨g',cap,cur,h1,_⟩
        ·omega
        ·exact⟨g',cap,h1⟩
       rw[hwk] at hus
       have hcl:=hls.cells rfl k v hv
       rw[add0] at hcl
       have hcg:=hlg.cells rfl k (ws k) (by simp[hlt])
       rw[add0,hwk] at hcg
       have hfm:=HFM.out k v hv
       obtain⟨vb,vc,rfl⟩:=xe hfm
       have hold:=HO0.out k _ hv
       have hf3:=HLEN.out k _ hv
       clear hls hlg hwk hv
       generalize (f k).length=n at*
       have HUS:=Lib.hid hus
       have HCL:=Lib.hid hcl
       have HCG:=Lib.hid hcg
       have HFM1:=Lib.hid hfm
       have HOL:=Lib.hid hold
       clear hus hcl hcg hfm hold
       have hzl:=(HKI.out.cell (World.block_lt_of_cell? w2 _ HCL.out)).trans HCL.out
       have hzg:=(HKI.out.cell (World.block_lt_of_cell? w2 _ HCG.out)).trans HCG.out
       go_wp2_with fail
       go_loopg [11] (n+20) (fun gg y wr=>∃i:Nat,y= .int .i64 i/\i<=n+20/\gg=n+20-i/\Kin w2 wr/\Below B w wr)
       case atStart=>exact⟨0,rfl,Nat.zero_le _,rfl,HKI.out,HBE.out⟩
       case round=>
        clear HKI HBE hzl hzg
        obtain⟨i,rfl,hi20,hgg,hKI,hBel⟩:=hrel
        have HG2:=Lib.hid hgg
        have HKI:=Lib.hid hKI
        have HBE:=Lib.hid hBel
        clear hgg hKI hBel
        have hzl:=(HKI.out.cell (World.block_lt_of_cell? w2 _ HCL.out)).trans HCL.out
        have hzg:=(HKI.out.cell (World.block_lt_of_cell? w2 _ HCG.out)).trans HCG.out
        have hbl:=World.block_lt_of_cell? wr _ hzl
        have hbg:=World.block_lt_of_cell? wr _ hzg
        simp only at hbl hbg
        by_cases hli:i<n+20
        ·by_cases hin:i<n
         ·have hun:=owns_kin HUS.out HKI.out
          have hm:=zg9 (k:=k) hin
          have u0:=yu hun hm 0 _ (by omega) rfl
          have u1:=yu hun hm 1 _ (by omega) rfl
          have u2:=yu hun hm 2 _ (by omega) rfl
          have u3:=yu hun hm 3 _ (by omega) rfl
          have u4:=yu hun hm 4 _ (by omega) rfl
          have u5:=yu hun hm 5 _ (by omega) rfl
          rw[Nat.add_zero] at u0
          obtain⟨gv,rfl⟩:∃gv,vb=some ⟨gv,0,none⟩:=by
           rcases HFM1.out.2 with⟨h1,h2⟩|⟨g',cap,cur,h1,_⟩
           ·omega
           ·exact⟨g',by simp at h1;exact h1.1⟩
          obtain⟨b',c',e1,_,e3⟩:=HOL.out.kin HKI.out
          have hml:(markL k n)[i]? =some (markN k i):=by simp[markL,hin]
          obtain⟨g',o',e4,e5⟩:=e3 (fun e=>by rw[e] at hml;simp at hml)
          simp only[Value.slice.injEq] at e1
          rw[<-e1.1] at e4
          simp only[Option.some.injEq,Addr.mk.injEq,and_true] at e4
          obtain⟨rfl,rfl⟩:=e4
          have v0:=e5 i _ hml 0 _ rfl
          have v1:=e5 i _ hml 1 _ rfl
          have v2:=e5 i _ hml 2 _ rfl
          have v3:=e5 i _ hml 3 _ rfl
          have v4:=e5 i _ hml 4 _ rfl
          have v5:=e5 i _ hml 5 _ rfl
          rw[Nat.add_zero] at v0
          rw[Nat.zero_add] at v0 v1 v2 v3 v4 v5
          simp only[markN] at u0 u1 u2 u3 u4 u5 v0 v1 v2 v3 v4 v5
          have hbu:=World.block_lt_of_cell? wr _ u0
          have hbv:=World.block_lt_of_cell? wr _ v0
          simp only at hbu hbv
          clear hun hm e1 e3 e5 hml
          have hnge2:¬((n:Int)<=(i:Int)):=by omega
          have hnge5:decide ((i:Int)≥(n:Int))=false:=decide_eq_false hnge2
          have hnge3:decide ((n:Int)<=(i:Int))=false:=decide_eq_false hnge2
          have hnge:¬(n<=i):=by omega
          have hnge4:decide (n<=i)=false:=decide_eq_false hnge
          have hsz:=HKI.out.size
          go_wp2_with fail
          refine wp_region_held_drew (S:=fun w'=>w'.cell? ⟨gl,k,none⟩=some (Value.slice (some ⟨gv,0,none⟩) n vc)/\w'.cell? ⟨gg,k,none⟩=some (Value.slice (some ⟨gu,0,none⟩) (n+20) uc)/\w'.cell? ⟨gu,i*6,none⟩=some (Value.int IntKind.i64 (-1-↑k))/\w'.cell? ⟨gu,i*6+1,none⟩=some (Value.int IntKind.i64 0)/\w'.cell? ⟨gu,i*6+2,none⟩=some (Value.string ⟨#[]⟩)/\w'.cell? ⟨gu,i*6+3,none⟩=some (Value.int IntKind.i64 0)/\w'.cell? ⟨gu,i*6+4,none⟩=some (Value.int IntKind.i64 0)/\w'.cell? ⟨gu,i*6+5,none⟩=some (Value.int IntKind.i64 ↑i)/\w'.cell? ⟨gv,i*6,none⟩=some (Value.int IntKind.i64 (-1-↑k))/\w'.cell? ⟨gv,i*6+1,none⟩=some (Value.int IntKind.i64 0)/\w'.cell? ⟨gv,i*6+2,none⟩=some (Value.string ⟨#[]⟩)/\w'.cell? ⟨gv,i*6+3,none⟩=some (Value.int IntKind.i64 0)/\w'.cell? ⟨gv,i*6+4,none⟩=some (Value.int IntKind.i64 0)/\w'.cell? ⟨gv,i*6+5,none⟩=some (Value.int IntKind.i64 ↑i)) (by kernel_rfl) ⟨hzl,hzg,u0,u1,u2,u3,u4,u5,v0,v1,v2,v3,v4,v5⟩ (fun hHeld=>?_)
          refine tk 0 ?_
          refine tk 1 ?_
          refine tk 2 ?_
          refine tk 3 ?_
          refine tk 4 ?_
          refine tk 5 ?_
          refine tk 6 ?_
          refine tk 7 ?_
          refine tk 8 ?_
          refine tk 9 ?_
          refine tk 10 ?_
          refine tk 11 ?_
          refine tk 12 ?_
          refine wpAnyH_ready (rs:=[13]) (by kernel_rfl) (by simp) ?_
          refine AllReadyH.cons rfl (fun K hK=>?_) AllReadyH.nil
          go_simp
          refine(uL k i (by omega) _).mono ?_
          rintro e w' ⟨rfl,rfl⟩
          go_wp2_with fail
          refine hK.out _ _ ?_ (fun hHeld=>?_)
          ·exact⟨zC hHeld.1,zC hHeld.2.1,zC hHeld.2.2.1,zC hHeld.2.2.2.1,zC hHeld.2.2.2.2.1,zC hHeld.2.2.2.2.2.1,zC hHeld.2.2.2.2.2.2.1,zC hHeld.2.2.2.2.2.2.2.1,zC hHeld.2.2.2.2.2.2.2.2.1,zC hHeld.2.2.2.2.2.2.2.2.2.1,zC hHeld.2.2.2.2.2.2.2.2.2.2.1,zC hHeld.2.2.2.2.2.2.2.2.2.2.2.1,zC hHeld.2.2.2.2.2.2.2.2.2.2.2.2.1,zC hHeld.2.2.2.2.2.2.2.2.2.2.2.2.2⟩
          clear hK K
          try simp only[Act.put,List.setIfInBounds_toArray,List.set_cons_zero,List.set_cons_succ]
          refine tk 14 ?_
          refine tk 15 ?_
          refine tk 16 ?_
          refine tk 17 ?_
          refine tk 18 ?_
          refine tk 19 ?_
          refine tk 20 ?_
          refine tk 21 ?_
          refine tk 22 ?_
          refine tk 23 ?_
          refine tk 24 ?_
          refine wpAnyH_ready (rs:=[25]) (by kernel_rfl) (by simp) ?_
          refine AllReadyH.cons rfl (fun K hK=>?_) AllReadyH.nil
          go_simp
          refine(uL k i (by omega) _).mono ?_
          rintro e w' ⟨rfl,rfl⟩
          go_wp2_with fail
          refine hK.out _ _ ?_ (fun hHeld=>?_)
          ·exact⟨zC hHeld.1,zC hHeld.2.1,zC hHeld.2.2.1,zC hHeld.2.2.2.1,zC hHeld.2.2.2.2.1,zC hHeld.2.2.2.2.2.1,zC hHeld.2.2.2.2.2.2.1,zC hHeld.2.2.2.2.2.2.2.1,zC hHeld.2.2.2.2.2.2.2.2.1,zC hHeld.2.2.2.2.2.2.2.2.2.1,zC hHeld.2.2.2.2.2.2.2.2.2.2.1,zC hHeld.2.2.2.2.2.2.2.2.2.2.2.1,zC hHeld.2.2.2.2.2.2.2.2.2.2.2.2.1,zC hHeld.2.2.2.2.2.2.2.2.2.2.2.2.2⟩
          clear hK K
          try simp only[Act.put,List.setIfInBounds_toArray,List.set_cons_zero,List.set_cons_succ]
          refine tk 26 ?_
          refine tk 27 ?_
          refine tk 28 ?_
          refine tk 29 ?_
          refine tk 30 ?_
          refine tk 31 ?_
          refine tk 32 ?_
          refine tk 33 ?_
          refine tu 34 ?_
          refine tu 35 ?_
          refine tu 36 ?_
          refine tu 37 ?_
          refine tu 38 ?_
          refine tu 39 ?_
          refine tu 40 ?_
          refine tu 41 ?_
          refine tu 42 ?_
          refine tu 43 ?_
          refine tk 44 ?_
          refine tk 45 ?_
          refine wpAnyH_done (by kernel_rfl) ?_ _
          go_wp2_with fail
          go_roundg (n+20-(i+1))
          case measure=>have:=HG2.out;omega
          case rel=>exact⟨i+1,by simp,by omega,rfl,((za6 HKI.out).alloc _).alloc _,(HBE.out.drew.alloc (Nat.le_trans hB HBE.out.size) _).alloc (Nat.le_trans hB (Nat.le_trans HBE.out.size (by simp))) _⟩
         ·have hun:=owns_kin HUS.out HKI.out
          have hm:=ziE (k:=k) (Nat.le_of_not_lt hin) hli
          have u0:=yu hun hm 0 _ (by omega) rfl
          have u1:=yu hun hm 1 _ (by omega) rfl
          have u2:=yu hun hm 2 _ (by omega) rfl
          have u3:=yu hun hm 3 _ (by omega) rfl
          have u4:=yu hun hm 4 _ (by omega) rfl
          have u5:=yu hun hm 5 _ (by omega) rfl
          rw[Nat.add_zero] at u0
          simp only[behN] at u0 u1 u2 u3 u4 u5
          clear hun hm
          have hnge2:(n:Int)<=(i:Int):=by omega
          have hnge4:¬((i:Int)<(n:Int)):=by omega
          have hnge5:decide ((i:Int)≥(n:Int))=true:=decide_eq_true hnge2
          have hnge6:decide ((i:Int)<(n:Int))=false:=decide_eq_false hnge4
          go_wp2_with fail
          refine wp_region_held_drew (S:=fun w'=>w'.cell? ⟨gg,k,none⟩=some (Value.slice (some ⟨gu,0,none⟩) (n+20) uc)/\w'.cell? ⟨gu,i*6,none⟩=some (Value.int IntKind.i64 (-1000-↑k))/\w'.cell? ⟨gu,i*6+1,none⟩=some (Value.int IntKind.i64 0)/\w'.cell? ⟨gu,i*6+2,none⟩=some (Value.string ⟨#[]⟩)/\w'.cell? ⟨gu,i*6+3,none⟩=some (Value.int IntKind.i64 0)/\w'.cell? ⟨gu,i*6+4,none⟩=some (Value.int IntKind.i64 0)/\w'.cell? ⟨gu,i*6+5,none⟩=some (Value.int IntKind.i64 0)) (by kernel_rfl) ⟨hzg,u0,u1,u2,u3,u4,u5⟩ (fun hHeld=>?_)
          refine tk 0 ?_
          refine tk 1 ?_
          refine tk 2 ?_
          refine tk 3 ?_
          refine tu 4 ?_
          refine tu 5 ?_
          refine tu 6 ?_
          refine tu 7 ?_
          refine tu 8 ?_
          refine tu 9 ?_
          refine tu 10 ?_
          refine tu 11 ?_
          refine tu 12 ?_
          refine tu 13 ?_
          refine tu 14 ?_
          refine tu 15 ?_
          refine tu 16 ?_
          refine tu 17 ?_
          refine tu 18 ?_
          refine tu 19 ?_
          refine tu 20 ?_
          refine tu 21 ?_
          refine tu 22 ?_
          refine tu 23 ?_
          refine tu 24 ?_
          refine tu 25 ?_
          refine tu 26 ?_
          refine tu 27 ?_
          refine tk 28 ?_
          refine tk 29 ?_
          refine tk 30 ?_
          refine tk 31 ?_
          refine tk 32 ?_
          refine tk 33 ?_
          refine tk 34 ?_
          refine tk 35 ?_
          refine tk 36 ?_
          refine tk 37 ?_
          refine tk 38 ?_
          refine tk 39 ?_
          refine tk 40 ?_
          refine tk 41 ?_
          refine wpAnyH_ready (rs:=[42]) (by kernel_rfl) (by simp) ?_
          refine AllReadyH.cons rfl (fun K hK=>?_) AllReadyH.nil
          go_simp
          refine(zam k (by omega) _).mono ?_
          rintro e w' ⟨rfl,rfl⟩
          go_wp2_with fail
          refine hK.out _ _ ?_ (fun hHeld=>?_)
          ·exact⟨zC hHeld.1,zC hHeld.2.1,zC hHeld.2.2.1,zC hHeld.2.2.2.1,zC hHeld.2.2.2.2.1,zC hHeld.2.2.2.2.2.1,zC hHeld.2.2.2.2.2.2⟩
          clear hK K
          try simp only[Act.put,List.setIfInBounds_toArray,List.set_cons_zero,List.set_cons_succ]
          refine tk 43 ?_
          refine tk 44 ?_
          refine tk 45 ?_
          refine wpAnyH_done (by kernel_rfl) ?_ _
          go_wp2_with fail
          go_roundg (n+20-(i+1))
          case measure=>have:=HG2.out;omega
          case rel=>exact⟨i+1,by simp,by omega,rfl,(za6 HKI.out).alloc _,HBE.out.drew.alloc (Nat.le_trans hB HBE.out.size) _⟩
        ·obtain rfl:i=n+20:=by omega
         go_wp2_with fail
         go_roundg (vs.length-(k+1))
         case measure=>have:=HG.out;omega
         case rel=>exact⟨k+1,by simp,by omega,rfl,HKI.out,HBE.out⟩
      ·obtain rfl:k=vs.length:=by omega
       go_wp2_with fail
       go_ret
       exact⟨rfl,HBE.out⟩
open Go.RowKit Go.Bsd
noncomputable def fx0:Code:=(Tryz.f13.body.getD .skip)
noncomputable def fx1:Code:=seqL (seqR fx0)
noncomputable def fx2:Code:=seqR (seqR fx0)
theorem zjJ:fx0= .seq (seqL fx0) (.seq fx1 fx2):=rfl
theorem zjI:∃id,fx1= .region id (zo fx1) false:=⟨_,rfl⟩
def xN:Array Value:= #[.int .i64 1, .int .i64 2, .string {data:= #[120]}, .int .i64 0, .int .i64 0, .int .i64 0, .int .i64 2, .int .i64 15, .string {data:= #[]}, .int .i64 0, .int .i64 4, .int .i64 7, .int .i64 3, .int .i64 10, .string {data:= #[]}, .int .i64 1, .int .i64 0, .int .i64 5, .int .i64 3, .int .i64 10, .string {data:= #[]}, .int .i64 2, .int .i64 0, .int .i64 9]
theorem zai:∀n∈fixedTree,n.name.size<=140737488355328/\ -9223372036854775808<=n.depth/\n.depth<=9223372036854775807:=by
 intro n hn
 simp only[fixedTree,List.mem_cons,List.not_mem_nil,or_false] at hn
 rcases hn with rfl|rfl|rfl|rfl<;>exact⟨by decide,by decide,by decide⟩
theorem fixed_tail(w w1:World)(kw:Kin w w1)(sl:Value)(hN:NodesAt w1 sl fixedTree)(T:Nat->Question->Nat)(d:Nat)(t8 t9:Value):
 fx2.wp Tryz.prog (bodyPost Tryz.prog Tryz.f13 (TrueP w)) {tmps:= #[.bool false,sl, .nilIface,undef,undef,undef,undef,undef,t8,t9,sl, .nilIface,undef,undef,undef,undef,undef,undef,undef,undef,undef,undef,undef,undef,undef,undef,undef,undef,undef,undef,undef,undef,undef,undef,undef,undef,undef,undef,undef,undef,undef,undef,undef,undef,undef,undef,undef,undef,undef,undef],defers:=[]} (re w1 T d):=by
 have k1:Kin w1 (re w1 T d):=⟨rfl,rfl,Nat.le_refl _,fun _ _=>rfl⟩
 have k2:Kin w1 ((re w1 T d).alloc (.cells xN 50)):=k1.alloc _
 have hb:((re w1 T d).alloc (.cells xN 50)).heap[w1.heap.size]? =some (.cells xN 50 (0,0)):=by
  have:=heap_alloc_new (re w1 T d) (.cells xN 50)
  simpa using this
 have n1:=hN.kin k2
 have n2:NodesAt ((re w1 T d).alloc (.cells xN 50)) (.slice (some ⟨w1.heap.size,0,none⟩) 4 4) fixedTree:=NodesAt.of_block hb rfl rfl (by decide)
 have n3:NodesAt ((re w1 T d).alloc (.cells xN 50)) (.slice (some ⟨w1.heap.size,0,none⟩) 3 4) (fixedTree.take 3):=NodesAt.of_block hb rfl rfl (by decide)
 have HS:=Lib.hid (same_any fixedTree fixedTree (by decide) (by decide) _ _ _ n1 n2)
 have HSh:=Lib.hid (fun w' (k:Kin _ w')=>gS fixedTree zai (by decide) _ w' (n2.kin k))
 have HSh3:=Lib.hid (fun w' (k:Kin _ w')=>gS (fixedTree.take 3) (fun n hn=>zai n (List.mem_of_mem_take hn)) (by decide) _ w' (n3.kin k))
 rw[zb8] at HSh
 rw[zbb] at HSh3
 rw[decide_eq_true rfl] at HS
 have KW:=Lib.hid (kw.trans k2)
 clear hN n1 n2 n3 k1 k2 hb
 obtain⟨W2,hW2⟩:∃W2,W2=(re w1 T d).alloc (.cells xN 50):=⟨_,rfl⟩
 rw[<-hW2] at HSh HSh3 KW
 have HS2:Hid (Calls Tryz.prog 16 #[sl, .slice (some ⟨w1.heap.size,0,none⟩) 4 4] ((re w1 T d).alloc (.cells xN 50)) fun e w'=>e= .returned (.bool true)/\Hid (Kin W2 w')):=Lib.hid (HS.out.mono fun e w' h=>⟨h.1,Lib.hid (by rw[hW2];exact h.2)⟩)
 unfold xN at HS2
 clear HS hW2
 have hsl:∀u,(Instr.sliceAt 25 (.slice (some ⟨w1.heap.size,0,none⟩) 4 4) none (some (.int .i64 3)) none).run Tryz.prog u= .ok (.slice (some ⟨w1.heap.size,0,none⟩) 3 4) u:=fun u=>by
  obtain⟨k,hk⟩:∃k,∀w,(sizeOf (Tryz.prog.elem 25)).run Tryz.prog w= .ok k w:=⟨6,fun w=>by kernel_rfl⟩
  rw[run_sliceAt_slice _ _ _ _ _ _ (by kernel_rfl),run_slice_h _ _ _ _ _ (by kernel_rfl) _ _ (by decide) (by decide),hk]
  simp[Result.andThen,sliced,Addr.add]
 generalize hB:bodyPost Tryz.prog Tryz.f13 (TrueP w)=B
 have HB:=Lib.hid hB
 clear hB
 simp only[fx2,fx0,seqR,Tryz.f13,Option.getD_some]
 go_wp2_with (go_at_call 16;refine HS2.out.mono ?_;rintro e w3 ⟨rfl,hk3⟩)
 have h18:=Lib.hid (HSh.out _ hk3.out)
 refine h18.out.mono ?_
 rintro e w4 ⟨rfl,hk4'⟩
 have hk4:=Lib.hid hk4'
 clear hk4' h18
 dsimp only
 go_wp2_with fail
 have h18:=Lib.hid (HSh3.out _ (hk3.out.trans hk4.out))
 refine h18.out.mono ?_
 rintro e w5 ⟨rfl,hk5'⟩
 have hk5:=Lib.hid hk5'
 clear hk5' h18 HSh3 HSh hsl
 dsimp only
 go_wp2_with fail
 rw[<-HB.out]
 go_ret
 exact⟨rfl,KW.out.trans (hk3.out.trans (hk4.out.trans hk5.out))⟩
theorem zft(hP:TameProg Tryz.prog)(te:TypeId)(pe:Value)(w:World)(hv:VarsOk w)(ce:w.cell? ⟨0,0,none⟩=some (.iface te pe)):CallsB Tryz.prog 13 #[] w (TrueP w):=by
 have hR:∀w',¬TrueP w .outgrown w':=fun w' h=>h
 refine vu hP Tryz.func13 (c:=fx0) rfl hR ?_
 rw[zjJ]
 have ha:(#[]++Array.replicate (Tryz.f13.ntmps-(#[]:Array Value).size) undef)= #[undef,undef,undef,undef,undef,undef,undef,undef,undef,undef,undef,undef,undef,undef,undef,undef,undef,undef,undef,undef,undef,undef,undef,undef,undef,undef,undef,undef,undef,undef,undef,undef,undef,undef,undef,undef,undef,undef,undef,undef,undef,undef,undef,undef,undef,undef,undef,undef,undef,undef]:=by
  simp only[Tryz.ntmps13]
  simp[Array.replicate_succ]
 rw[ha]
 clear ha
 refine xd hP fun T d=>?_
 generalize hB:bodyPost Tryz.prog Tryz.f13 (TrueP w)=B
 have HB:=Lib.hid hB
 clear hB
 generalize hY:(Code.seq fx1 fx2)=Y
 have HP:=Lib.hid (zaa hP fixedText (by decide) te pe w hv ce _ zbc)
 clear hv ce
 simp only[seqL,fx0,Tryz.f13,Option.getD_some]
 go_wp2
 subst hY
 refine uC ?_
 refine wpB_seq hP ?_
 obtain⟨id,hid⟩:=zjI
 rw[hid]
 clear hid
 generalize hX:fx2=X
 simp only[fx1,fx0,seqL,seqR,zo,Tryz.f13,Option.getD_some]
 subst hX
 refine qQ hP (l:=[_,_,_,_,_,_]) ?_
 refine j9 hP Tryz.func14 (by kernel_rfl) (by kernel_rfl) rfl rfl (args:= #[.string fixedText]) (by simp[Act.eval,xZ,fixedText]) (HP.out.mono ?_)
 rintro e w1 hpost
 cases e with
 |outgrown=>exact hpost.elim
 |panicked _=>exact hpost.elim
 |returned v=>
  obtain⟨kin,sl,rfl,hown⟩:=hpost
  have hn:=NodesAt.of_owns hown
  have HT:Hid (∀t8 t9,wpB Tryz.prog fx2 B {tmps:= #[.bool false,sl, .nilIface,undef,undef,undef,undef,undef,t8,t9,sl, .nilIface,undef,undef,undef,undef,undef,undef,undef,undef,undef,undef,undef,undef,undef,undef,undef,undef,undef,undef,undef,undef,undef,undef,undef,undef,undef,undef,undef,undef,undef,undef,undef,undef,undef,undef,undef,undef,undef,undef],defers:=[]} w1):=Lib.hid (fun t8 t9=>by
   rw[<-HB.out]
   exact wpB_lift hP fun T d=>fixed_tail w w1 kin sl hn T d t8 t9)
  clear hn hown kin HB HP
  generalize hX:fx2=X at HT⊢
  clear hX
  show yR Tryz.prog _ _ _ _ w1
  generalize hN:Exit.then (wpB Tryz.prog X B) B=N
  refine listB_lift hP fun T d=>?_
  go_wp2
  subst hN
  exact HT.out _ _
def frA(F:Nat->Value):Act:={tmps:=((List.range 113).map F).toArray,defers:=[]}
theorem yy(F:Nat->Value):frA F={tmps:=(F 0::F 1::F 2::F 3::F 4::F 5::F 6::F 7::F 8::F 9::F 10::F 11::F 12::F 13::F 14::F 15::F 16::F 17::F 18::F 19::F 20::F 21::F 22::F 23::F 24::F 25::F 26::F 27::F 28::F 29::F 30::F 31::F 32::F 33::F 34::F 35::F 36::F 37::F 38::F 39::F 40::F 41::F 42::F 43::F 44::F 45::F 46::F 47::F 48::F 49::F 50::F 51::F 52::F 53::F 54::F 55::F 56::F 57::F 58::F 59::F 60::F 61::F 62::F 63::F 64::F 65::F 66::F 67::F 68::F 69::F 70::F 71::F 72::F 73::F 74::F 75::F 76::F 77::F 78::F 79::F 80::F 81::F 82::F 83::F 84::F 85::F 86::F 87::F 88::F 89::F 90::F 91::F 92::F 93::F 94::F 95::F 96::F 97::F 98::F 99::F 100::F 101::F 102::F 103::F 104::F 105::F 106::F 107::F 108::F 109::F 110::F 111::F 112::[]).toArray,defers:=[]}:=rfl
theorem frA_of(l:List Value)(h:l.length=113):({tmps:=l.toArray,defers:=[]}:Act)=frA (fun n=>l.getD n undef):=by
 have:l=(List.range 113).map (fun n=>l.getD n undef):=by
  apply List.ext_getElem
  ·simp[h]
  ·intro n h1 h2
   simp[List.getD_eq_getElem?_getD,List.getElem?_eq_getElem h1]
 unfold frA
 rw[<-this]
def KG(lv:Value)(us vs:List Value)(f:Nat->List Nd):Nat->Th
 |0=>⟨lv,25,1,us.length,us⟩
 |j+1=>⟨vs.getD j (.slice none 0 0),50,6,(f j).length,ndCells (f j)⟩
theorem Thg.more{w w':World}{B K:Nat}{F:Nat->Th}(h:Thg w B K F)(k:Kin w w')(hB:B<=w.heap.size){t:Th}(ho:w'.ownsRow w.heap.size t.e t.size t.v t.n t.xs):Thg w' B (K+1) (fun j=>if j=K then t else F j):=by
 have hnew:∀g,t.v.ownBlock=some g->w.heap.size<=g:=fun g hg=>(ho.lt g hg).1
 refine⟨fun j hj=>?_,fun a b ha hb hab g hga hgb=>?_⟩
 ·by_cases e:j=K
  ·subst e
   simp only[if_true]
   exact ho.mono hB
  ·simp only[if_neg e]
   exact owns_kin (h.own j (by omega)) k
 ·by_cases e1:a=K
  ·by_cases e2:b=K
   ·omega
   ·simp only[if_pos e1,if_neg e2] at hga hgb
    have:=hnew g hga
    have:=((h.own b (by omega)).lt g hgb).2
    omega
  ·by_cases e2:b=K
   ·simp only[if_neg e1,if_pos e2] at hga hgb
    have:=hnew g hgb
    have:=((h.own a (by omega)).lt g hga).2
    omega
   ·simp only[if_neg e1,if_neg e2] at hga hgb
    exact h.sep a b (by omega) (by omega) hab g hga hgb
theorem Thg.to{w:World}{B K:Nat}{F F':Nat->Th}(h:Thg w B K F)(e:∀j,j<K->F j=F' j):Thg w B K F':=
 ⟨fun j hj=>by rw[<-e j hj];exact h.own j hj,fun a b ha hb=>by rw[<-e a ha,<-e b hb];exact h.sep a b ha hb⟩
theorem zjf{lv:Value}{us vs:List Value}{f:Nat->List Nd}{i:Nat}(hv:vs.length=i)(sl:Value)(j:Nat)(hj:j<i+2):(fun j=>if j=i+1 then (⟨sl,50,6,(f i).length,ndCells (f i)⟩:Th) else KG lv us vs f j) j=KG lv us (vs++[sl]) f j:=by
 subst hv
 match j with
 |0=>rfl
 |j+1=>
  by_cases e:j=vs.length
  ·subst e
   simp[KG]
  ·have h2:j<vs.length:=by omega
   have:¬(j+1=vs.length+1):=by omega
   simp only[if_neg this,KG]
   simp[List.getD_eq_getElem?_getD,List.getElem?_append_left h2]
theorem zjY{lv lv':Value}{us us' vs:List Value}{f:Nat->List Nd}{n:Nat}(hn:n=us'.length)(j:Nat):(fun j=>if j=0 then (⟨lv',25,1,n,us'⟩:Th) else KG lv us vs f j) j=KG lv' us' vs f j:=by
 subst hn
 match j with
 |0=>rfl
 |j+1=>rfl
noncomputable def outS(s:ByteArray):POut:=(gY s).choose
theorem gy(s:ByteArray):xy s (outS s):=(gY s).choose_spec
def ndsOf:POut->List Nd
 | .tree l=>l
 | .fault _ _=>[]
theorem zgV{l l':List Nd}(h:xz l= .tree l'):l'.length<=300:=by
 unfold xz at h
 split at h
 ·cases h
 ·rename_i hm
  split at h
  ·cases h
  ·cases h;omega
theorem ndsOf_sm(s:ByteArray):(ndsOf (outS s)).length<=300:=by
 have h:=gy s
 generalize outS s=o at h⊢
 cases o with
 |fault k p=>exact Nat.zero_le _
 |tree l=>
  unfold xy at h
  split at h
  ·cases h
  ·split at h
   ·cases h
   ·obtain⟨f,r,_,e⟩:=h
    cases r with
    |no p=>cases e
    |ok ts j=>exact zgV e.symm
theorem kY(s:ByteArray)(hs:s.size<=9223372036854775807)(w:World):Calls Tryz.prog 15 #[.string s] w fun e w'=>Kin w w'/\∃sl x y,e= .returned (.tuple #[sl, .int .i64 x, .int .i64 y])/\NodesAt w' sl (ndsOf (outS s)):=
 (rparse_any s hs w _ (gy s)).mono fun e w' ⟨K,h⟩=>by
  refine⟨K,?_⟩
  cases ho:outS s with
  |tree l=>
   rw[ho] at h
   obtain⟨sl,e,h⟩:=h
   exact⟨sl,0,0,e, .of_owns h⟩
  |fault k p=>
   rw[ho] at h
   exact⟨_,k,p,h,⟨none,0,rfl,Nat.zero_le _,fun h=>absurd rfl h⟩⟩
theorem gZ(hP:TameProg Tryz.prog)(s:ByteArray)(hs:s.size<=9223372036854775807)(te:TypeId)(pe:Value)(w:World)(hv:VarsOk w)(ce:w.cell? ⟨0,0,none⟩=some (.iface te pe)):
 CallsB Tryz.prog 14 #[.string s] w fun| .returned v,w'=>Kin w w'/\∃sl er,v= .tuple #[sl,er]/\w'.ownsRow w.heap.size 50 6 sl (ndsOf (outS s)).length (ndCells (ndsOf (outS s)))|_,_=>False:=
 (zaa hP s hs te pe w hv ce _ (gy s)).mono fun e w' h=>by
  cases e with
  |outgrown=>exact h
  |panicked _=>exact h
  |returned v=>
   obtain⟨K,h⟩:=h
   refine⟨K,?_⟩
   cases ho:outS s with
   |tree l=>
    rw[ho] at h
    obtain⟨sl,e,h⟩:=h
    exact⟨sl,_,e,h⟩
   |fault k p=>
    rw[ho] at h
    obtain⟨q,e,_⟩:=h
    exact⟨_,_,e,World.ownsRow_nil w' w.heap.size 50 6⟩
noncomputable def kq0:Code:=Tryz.f3.body.getD .skip
noncomputable def kq2:Code:=seqR (seqR kq0)
noncomputable def kqA3:Code:=yM (zu (seqR (seqL (seqR (seqR kq2)))))
noncomputable def kqA4:Code:=seqR (zu (seqL (seqR kqA3)))
noncomputable def kqB:Code:=seqR (seqR (seqR kq2))
noncomputable def kqC:Code:=seqR (seqR kqB)
noncomputable def kqC3:Code:=yM (zu (seqR (seqL kqC)))
noncomputable def kqC4:Code:=seqR (zu (seqL (seqR kqC3)))
theorem zjE:kq0= .seq (seqL kq0) (.seq (.seq (seqL (seqL (seqR kq0))) (seqR (seqL (seqR kq0)))) kq2):=rfl
theorem zjD:kq2= .seq (seqL kq2) (.seq (seqL (seqR kq2)) (.seq (.seq (seqL (seqL (seqR (seqR kq2)))) (.block 0 (.loop kqA3))) kqB)):=rfl
theorem zjC:kqB= .seq (seqL kqB) (.seq (seqL (seqR kqB)) kqC):=rfl
theorem zjB:kqC= .seq (.seq (seqL (seqL kqC)) (.block 4 (.loop kqC3))) (seqR kqC):=rfl
theorem ziI:kqA3= .seq (seqL kqA3) (.seq (.block 1 (.seq (seqL (zu (seqL (seqR kqA3)))) kqA4)) (seqR (seqR kqA3))):=rfl
theorem ziH:kqC3= .seq (seqL kqC3) (.seq (.block 5 (.seq (seqL (zu (seqL (seqR kqC3)))) kqC4)) (seqR (seqR kqC3))):=rfl
theorem ziJ:∃id,seqL (seqL (seqR kq0))= .region id (zo (seqL (seqL (seqR kq0)))) false:=⟨_,rfl⟩
theorem zhc:∃id,seqL (zu (seqL (seqR kqA3)))= .region id (zo (seqL (zu (seqL (seqR kqA3))))) false:=⟨_,rfl⟩
theorem zhb:∃id,seqL (zu (seqL (seqR kqC3)))= .region id (zo (seqL (zu (seqL (seqR kqC3))))) false:=⟨_,rfl⟩
theorem zdM(w w1:World)(K1:Kin w w1)(g i:Nat)(hi:i<6)(s:ByteArray)(hs:s.size<=9223372036854775807)(hc:w1.cell? ⟨g,i,none⟩=some (.string s))(F:Nat->Value)(h4:F 4= .bool false)(h5:F 5= .slice (some ⟨g,0,none⟩) 6 6)(h17:F 17= .int .i64 i)(hn:NodesAt w1 (F 18) (ndsOf (outS s)))(Q:Exit->Act->World->Prop)
 (HQ:Hid (∀(F':Nat->Value) w2,F' 4= .bool false->F' 5= .slice (some ⟨g,0,none⟩) 6 6->F' 17= .int .i64 i->Kin w w2->Q .normal (frA F') w2)):kqC4.wp Tryz.prog Q (frA F) w1:=by
 have HK1:=Lib.hid K1
 have HN:=Lib.hid hn
 have HD:=Lib.hid (fun w=>kY s hs w)
 have HL:=Lib.hid (ndsOf_sm s)
 have hi0:(0:Int)<=(i:Int):=by omega
 have hi6:(i:Int)<6:=by omega
 generalize ndsOf (outS s)=l at HN HD HL
 clear K1 hn
 rw[yy]
 simp only[h4,h5,h17]
 generalize F 18=sl at HN⊢
 simp only[kqC4,kqC3,kqC,kqB,kq2,kq0,seqL,seqR,yM,zu,Tryz.f3,Option.getD_some]
 go_wp2_with (first|(go_at_call 15;with_reducible refine(HD.out _).mono ?_;rintro e w2 ⟨K2,sl2,x,y,rfl,hn2⟩;have HN2:=Lib.hid hn2;have HK2:=Lib.hid K2;clear hn2 K2)|(go_at_call 16;with_reducible refine(same_any l l (by have:=HL.out;omega) (by have:=HL.out;omega) sl sl2 _ (HN.out.kin HK2.out) HN2.out).mono ?_;rintro e w4 ⟨rfl,K4⟩;rw[show decide (l=l)=true from by simp]))
 rw[frA_of _ (by rfl)]
 exact HQ.out _ _ rfl rfl rfl ((HK1.out.trans HK2.out).trans K4)
theorem zdN(w w1:World)(K1:Kin w w1)(g i:Nat)(hi:i<6)(s:ByteArray)(hs:s.size<=9223372036854775807)(hc:w1.cell? ⟨g,i,none⟩=some (.string s))(F:Nat->Value)(h4:F 4= .bool false)(h5:F 5= .slice (some ⟨g,0,none⟩) 6 6)(h7:F 7= .int .i64 i)(vs:List Value)(hvs:vs.length=i)(f:Nat->List Nd)(hf:f i=ndsOf (outS s))(hT:Thg w1 w.heap.size (i+2) (KG (F 6) vs (vs++[F 8]) f))(Q:Exit->Act->World->Prop)
 (HQ:Hid (∀(F':Nat->Value) w2,F' 4= .bool false->F' 5= .slice (some ⟨g,0,none⟩) 6 6->F' 7= .int .i64 i->Kin w w2->Thg w2 w.heap.size (i+2) (KG (F' 6) (vs++[F 8]) (vs++[F 8]) f)->Q .normal (frA F') w2)):kqA4.wp Tryz.prog Q (frA F) w1:=by
 have HK1:=Lib.hid K1
 have HT:=Lib.hid hT
 have HD:=Lib.hid (fun w=>kY s hs w)
 have HL:=Lib.hid (ndsOf_sm s)
 have HVS:=Lib.hid hvs
 have hi0:(0:Int)<=(i:Int):=by omega
 have hi6:(i:Int)<6:=by omega
 obtain⟨tj,hj,hy0,hy1,hy2⟩:=info_parts zfn
 have ho:=hT.own (i+1) (by omega)
 have ho2:=hT.own 0 (by omega)
 simp only[KG] at ho ho2
 rw[hf,show(vs++[F 8]).getD i (.slice none 0 0)=F 8 from by subst hvs;simp] at ho
 rw[hvs] at ho2
 have HLO:=Lib.hid ho2
 have HN:Hid (NodesAt w1 (F 8) (ndsOf (outS s))):=Lib.hid (.of_owns ho)
 generalize ndsOf (outS s)=l at HN HD HL ho
 obtain⟨zb,zc,hz⟩:=xe ho
 clear K1 hT ho ho2 hf hvs
 rw[yy]
 simp only[h4,h5,h7]
 rw[hz] at HN HQ HT⊢
 generalize hnl:l.length=n at*
 have HNL:=Lib.hid hnl
 clear hnl
 generalize F 6=lv at*
 simp only[kqA4,kqA3,kq2,kq0,seqL,seqR,yM,zu,Tryz.f3,Option.getD_some]
 go_wp2_with (first|(go_at_call 15;with_reducible refine(HD.out _).mono ?_;rintro e w2 ⟨K2,sl2,x,y,rfl,hn2⟩;have HN2:=Lib.hid hn2;have HK2:=Lib.hid K2;clear hn2 K2)|(go_at_call 16;with_reducible refine(same_any l l (by have:=HL.out;have:=HNL.out;omega) (by have:=HL.out;have:=HNL.out;omega) _ sl2 _ (HN.out.kin HK2.out) HN2.out).mono ?_;rintro e w4 ⟨rfl,K4⟩;have HK4:=Lib.hid (HK2.out.trans K4);clear K4;rw[show decide (l=l)=true from by simp])|(at_builtin;refine wpList_append_row2 _ rfl (.tmp 57) (.tmp 59) 24 rfl w.heap.size 25 tj _ 1 24 Tryz.underlying24 hj hy0 hy1 hy2 rfl (by decide) lv i vs rfl (owns_kin HLO.out (HK4.out.alloc _)) ⟨w4.heap.size,0,none⟩ 1 1 [.slice zb n zc] rfl rfl (newc w4 _ _ _ rfl) (by intro u hu;simp at hu;subst hu;rfl) (by unfold maxLen;omega) (by omega) (by have:=HK1.out.size;have:=HK4.out.size;simp;omega) ?_;intro v2 w2 hown2 hgrow2))
 rw[frA_of _ (by rfl)]
 refine HQ.out _ _ rfl rfl rfl ((HK1.out.trans (HK4.out.alloc _)).grownK hgrow2.by (fun b hb=>(HLO.out.lt b hb).1)) ?_
 exact((HT.out.kin (HK4.out.alloc _)).upd (i:=0) (by omega) (t:=⟨v2,25,1,i+1,vs++[.slice zb n zc]⟩) hgrow2 hown2).to fun j hj=>zjY (by simp[HVS.out]) j
theorem zdP(w w1:World)(K1:Kin w w1)(g:Nat)(tx:List ByteArray)(htx:tx.length=6)(hsz:∀t∈tx,t.size<=9223372036854775807)(hc:∀(j:Nat) t,tx[j]? =some t->w.cell? ⟨g,j,none⟩=some (.string t))(F:Nat->Value)(h4:F 4= .bool false)(h5:F 5= .slice (some ⟨g,0,none⟩) 6 6)(vs:List Value)(hvs:vs.length=6)(hT:Thg w1 w.heap.size 7 (KG (F 6) vs vs (fun j=>ndsOf (outS (tx.getD j ⟨#[]⟩)))))(Q:Exit->Act->World->Prop)
 (HQ:Hid (∀(F':Nat->Value) w2,F' 4= .bool false->F' 5= .slice (some ⟨g,0,none⟩) 6 6->F' 6=F 6->Kin w w2->Kin w1 w2->Q .normal (frA F') w2)):(seqL kqB).wp Tryz.prog Q (frA F) w1:=by
 have HK1:=Lib.hid K1
 have HT:=Lib.hid hT
 have HC:=Lib.hid hc
 have HSZ:=Lib.hid hsz
 have HVS:=Lib.hid hvs
 have HTX:=Lib.hid htx
 have ho2:=hT.own 0 (by omega)
 simp only[KG] at ho2
 rw[hvs] at ho2
 obtain⟨gl,lc,hlv⟩:∃gl lc,F 6= .slice (some ⟨gl,0,none⟩) 6 lc:=by
  rcases ho2.2 with⟨h1,h2⟩|⟨g',cap,cur,h1,_⟩
  ·omega
  ·exact⟨g',cap,h1⟩
 rw[hlv] at ho2
 have HLO:=Lib.hid ho2
 clear K1 hT hc hsz hvs htx ho2
 rw[hlv] at HQ
 rw[yy]
 simp only[h4,h5,hlv]
 simp only[kqB,kq2,kq0,seqL,seqR,yM,zu,Tryz.f3,Option.getD_some]
 go_wp2_with fail
 go_loopg [4,13] 6 (fun gg y x wr=>y= .bool false/\∃k:Nat,x= .int .i64 k/\k<=6/\gg=6-k/\Kin w1 wr)
 case atStart=>exact⟨rfl,0,rfl,Nat.zero_le _,rfl,Kin.refl _⟩
 case round=>
  obtain⟨rfl,k,rfl,hk,hgg,hK⟩:=hrel
  have HG:=Lib.hid hgg
  have HK:=Lib.hid hK
  clear hgg hK
  by_cases hlt:k<6
  ·obtain⟨s,hs⟩:∃s,tx[k]? =some s:=⟨_,List.getElem?_eq_getElem (by rw[HTX.out];exact hlt)⟩
   obtain⟨v,hv⟩:∃v,vs[k]? =some v:=⟨_,List.getElem?_eq_getElem (by rw[HVS.out];exact hlt)⟩
   have hsz:=HSZ.out s (List.mem_of_getElem? hs)
   have hc0:=HC.out k s hs
   have hc:=(HK1.out.trans HK.out).cell (World.block_lt_of_cell? w _ hc0) |>.trans hc0
   have hl0:=HLO.out.cells rfl k v hv
   rw[add0] at hl0
   have hl:=cl_kin HK.out hl0
   have ho:=HT.out.own (k+1) (by omega)
   simp only[KG] at ho
   rw[show vs.getD k (.slice none 0 0)=v from by simp[List.getD_eq_getElem?_getD,hv],show tx.getD k ⟨#[]⟩=s from by simp[List.getD_eq_getElem?_getD,hs]] at ho
   have HN:Hid (NodesAt wr v (ndsOf (outS s))):=Lib.hid (.of_owns (owns_kin ho HK.out))
   have HD:=Lib.hid (fun w=>kY s hsz w)
   have HL:=Lib.hid (ndsOf_sm s)
   obtain⟨zb,zc,hz⟩:=xe ho
   generalize ndsOf (outS s)=l at HN HD HL hz
   subst hz
   generalize hnl:l.length=n at hl hv HN
   have HNL:=Lib.hid hnl
   clear ho hl0 hc0 hs hv hnl
   have hbl:=World.block_lt_of_cell? wr _ hl
   simp only at hbl
   go_wp2_with (first|(go_at_call 15;with_reducible refine(HD.out _).mono ?_;rintro e w2 ⟨K2,sl2,x,y,rfl,hn2⟩;have HN2:=Lib.hid hn2;have HK2:=Lib.hid K2;have hl2:=cl_kin K2 hl;clear hn2 K2)|(go_at_call 16;with_reducible refine(same_any l l (by have:=HL.out;have:=HNL.out;omega) (by have:=HL.out;have:=HNL.out;omega) _ sl2 _ (HN.out.kin HK2.out) HN2.out).mono ?_;rintro e w4 ⟨rfl,K4⟩;have HK4:=Lib.hid (HK2.out.trans K4);clear K4;rw[show decide (l=l)=true from by simp]))
   go_roundg (6-(k+1))
   case measure=>have:=HG.out;omega
   case rel=>exact⟨rfl,k+1,by simp,by omega,rfl,HK.out.trans HK4.out⟩
  ·obtain rfl:k=6:=by omega
   go_wp2_with fail
   rw[frA_of _ (by rfl)]
   exact HQ.out _ _ rfl rfl rfl (HK1.out.trans HK.out) HK.out
theorem kept_roundC(hP:TameProg Tryz.prog)(w w1:World)(K1:Kin w w1)(te:TypeId)(pe:Value)(hv:VarsOk w1)(ce:w1.cell? ⟨0,0,none⟩=some (.iface te pe))(g i:Nat)(hi:i<6)(s:ByteArray)(hs:s.size<=9223372036854775807)(hc:w1.cell? ⟨g,i,none⟩=some (.string s))(F:Nat->Value)(h4:F 4= .bool false)(h5:F 5= .slice (some ⟨g,0,none⟩) 6 6)(hx:F 17= .int .i64 i)(Q:Exit->Act->World->Prop)
 (HQ:Hid (∀(F':Nat->Value) w2,F' 4= .bool false->F' 5= .slice (some ⟨g,0,none⟩) 6 6->F' 17= .int .i64 i->Kin w w2->Q .normal (frA F') w2)):
 wpB Tryz.prog (.seq (seqL (zu (seqL (seqR kqC3)))) kqC4) Q (frA F) w1:=by
 have HP:=Lib.hid (gZ hP s hs te pe w1 hv ce)
 have HK1:=Lib.hid K1
 have HC:=Lib.hid hc
 have HI:=Lib.hid hi
 have hi0:(0:Int)<=(i:Int):=by omega
 have hi6:(i:Int)<6:=by omega
 clear hv ce K1
 refine wpB_seq hP ?_
 obtain⟨id,hid⟩:=zhb
 rw[hid]
 clear hid
 generalize hX:kqC4=X
 have HX:=Lib.hid hX
 clear hX
 simp only[kqC3,kqC,kqB,kqA3,kq2,kq0,seqL,seqR,yM,zu,zo,Tryz.f3,Option.getD_some]
 rw[yy]
 simp only[h4,h5,hx]
 refine qQ hP (l:=[_,_,_,_,_,_,_,_,_,_]) ?_
 refine listB_cut hP [_,_,_,_] [_,_,_,_,_,_] fun T d=>?_
 generalize hN:yR Tryz.prog _ _ _=N
 have HN:=Lib.hid hN
 clear hN
 have hc':(re w1 T d).cell? ⟨g,i,none⟩=some (.string s):=hc
 clear hc
 go_wp2
 rw[<-HN.out]
 refine vf ?_
 refine j9 hP Tryz.func14 (by kernel_rfl) (by kernel_rfl) rfl rfl (args:= #[.string s]) (by simp[Act.eval,xZ]) (HP.out.mono ?_)
 rintro e w2 hpost
 cases e with
 |outgrown=>exact hpost.elim
 |panicked _=>exact hpost.elim
 |returned v=>
  obtain⟨kin,sl,er,rfl,hown⟩:=hpost
  clear HN HP
  have HT:Hid (∀(F':Nat->Value),F' 4= .bool false->F' 5= .slice (some ⟨g,0,none⟩) 6 6->F' 17= .int .i64 i->F' 18=sl->wpB Tryz.prog X Q (frA F') w2):=Lib.hid (by
   intro F' k4 k5 kx ks
   rw[<-HX.out]
   refine wpB_lift hP fun T d=>?_
   have KR:=yd w2 T d
   exact zdM w (re w2 T d) ((HK1.out.trans kin).trans KR) g i HI.out s hs ((kin.cell (World.block_lt_of_cell? w1 _ HC.out)).trans HC.out) F' k4 k5 kx (by rw[ks];exact(NodesAt.of_owns hown).kin KR) Q HQ)
  clear HX HQ HC HK1 kin hown
  show yR Tryz.prog _ _ _ _ w2
  generalize hM:Exit.then (wpB Tryz.prog X Q) Q=M
  have HM:=Lib.hid hM
  clear hM
  refine listB_lift hP fun T d=>?_
  go_wp2
  rw[<-HM.out]
  rw[frA_of _ (by rfl)]
  exact HT.out _ rfl rfl rfl rfl
theorem kept_roundA(hP:TameProg Tryz.prog)(w w1:World)(K1:Kin w w1)(te:TypeId)(pe:Value)(hv:VarsOk w1)(ce:w1.cell? ⟨0,0,none⟩=some (.iface te pe))(g i:Nat)(hi:i<6)(s:ByteArray)(hs:s.size<=9223372036854775807)(hc:w1.cell? ⟨g,i,none⟩=some (.string s))(F:Nat->Value)(h4:F 4= .bool false)(h5:F 5= .slice (some ⟨g,0,none⟩) 6 6)(hx:F 7= .int .i64 i)(vs:List Value)(hvs:vs.length=i)(f:Nat->List Nd)(hf:f i=ndsOf (outS s))(hT:Thg w1 w.heap.size (i+1) (KG (F 6) vs vs f))(Q:Exit->Act->World->Prop)
 (HQ:Hid (∀(F':Nat->Value) w2,F' 4= .bool false->F' 5= .slice (some ⟨g,0,none⟩) 6 6->F' 7= .int .i64 i->Kin w w2->(∃sl,Thg w2 w.heap.size (i+2) (KG (F' 6) (vs++[sl]) (vs++[sl]) f))->Q .normal (frA F') w2)):
 wpB Tryz.prog (.seq (seqL (zu (seqL (seqR kqA3)))) kqA4) Q (frA F) w1:=by
 have HP:=Lib.hid (gZ hP s hs te pe w1 hv ce)
 have HK1:=Lib.hid K1
 have HC:=Lib.hid hc
 have HI:=Lib.hid hi
 have HT0:=Lib.hid hT
 clear hT
 have hi0:(0:Int)<=(i:Int):=by omega
 have hi6:(i:Int)<6:=by omega
 clear hv ce K1
 refine wpB_seq hP ?_
 obtain⟨id,hid⟩:=zhc
 rw[hid]
 clear hid
 generalize hX:kqA4=X
 have HX:=Lib.hid hX
 clear hX
 simp only[kqC3,kqC,kqB,kqA3,kq2,kq0,seqL,seqR,yM,zu,zo,Tryz.f3,Option.getD_some]
 rw[yy]
 simp only[h4,h5,hx]
 refine qQ hP (l:=[_,_,_,_,_,_,_,_,_,_]) ?_
 refine listB_cut hP [_,_,_,_] [_,_,_,_,_,_] fun T d=>?_
 generalize hN:yR Tryz.prog _ _ _=N
 have HN:=Lib.hid hN
 clear hN
 have hc':(re w1 T d).cell? ⟨g,i,none⟩=some (.string s):=hc
 clear hc
 go_wp2
 rw[<-HN.out]
 refine vf ?_
 refine j9 hP Tryz.func14 (by kernel_rfl) (by kernel_rfl) rfl rfl (args:= #[.string s]) (by simp[Act.eval,xZ]) (HP.out.mono ?_)
 rintro e w2 hpost
 cases e with
 |outgrown=>exact hpost.elim
 |panicked _=>exact hpost.elim
 |returned v=>
  obtain⟨kin,sl,er,rfl,hown⟩:=hpost
  clear HN HP
  have HT:Hid (∀(F':Nat->Value),F' 4= .bool false->F' 5= .slice (some ⟨g,0,none⟩) 6 6->F' 7= .int .i64 i->F' 8=sl->F' 6=F 6->wpB Tryz.prog X Q (frA F') w2):=Lib.hid (by
   intro F' k4 k5 kx ks k6
   rw[<-HX.out]
   refine wpB_lift hP fun T d=>?_
   have KR:=yd w2 T d
   have hT2:=(HT0.out.more kin HK1.out.size (t:=⟨sl,50,6,(f i).length,ndCells (f i)⟩) (by rw[hf];exact hown)).to (zjf hvs sl)
   refine zdN w (re w2 T d) ((HK1.out.trans kin).trans KR) g i HI.out s hs ((kin.cell (World.block_lt_of_cell? w1 _ HC.out)).trans HC.out) F' k4 k5 kx vs hvs f hf (by rw[ks,k6];exact hT2.kin KR) Q (Lib.hid fun F2 w3 a b c d e=>HQ.out F2 w3 a b c d ⟨_,e⟩))
  clear HX HQ HC HK1 kin hown
  show yR Tryz.prog _ _ _ _ w2
  generalize hM:Exit.then (wpB Tryz.prog X Q) Q=M
  have HM:=Lib.hid hM
  clear hM
  refine listB_lift hP fun T d=>?_
  go_wp2
  rw[<-HM.out]
  rw[frA_of _ (by rfl)]
  exact HT.out _ rfl rfl rfl rfl rfl
end Go.Proofs.YtonmcakdofbjiaaGreatDoor
