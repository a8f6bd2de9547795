/- A part. -/
import Derived.Test.YtonmcakdofbjiaaGreatDoorM18
import Derived.Test.YtonmcakdofbjiaaGreatDoorProg
import Derived.WalkKit
import Derived.RowKitTokens
import Derived.Test.YtonmcakdofbjiaaGreatDoorM10
import Derived.Deep.Cut
import Derived.BigQuiet
import Derived.Test.YtonmcakdofbjiaaGreatDoorM14
import Derived.Deep.OwnRows
set_option linter.all false
set_option maxRecDepth 100000
set_option maxHeartbeats 8000000
namespace Go.Proofs.YtonmcakdofbjiaaGreatDoor
open Go.RowKit
theorem zh2:∀(u:Nat),(∀b∈Lib.decDigits u,48<=b.toNat/\b.toNat<=57)/\Lib.decDigits u≠[]:=by
 intro u;induction u using Nat.strongRecOn with
 |_ u ih=>
  have hd:∀m,m<10->48<=(UInt8.ofNat (48+m)).toNat/\(UInt8.ofNat (48+m)).toNat<=57:=fun m hm=>by
   rw[UInt8.toNat_ofNat_of_lt' (by show 48+m<256;omega)]
   omega
  by_cases h:u<10
  ·rw[Lib.decDigits,dif_pos h];exact⟨fun b hb=>by rw[List.mem_singleton.1 hb];exact hd u h,by simp⟩
  ·rw[Lib.decDigits,dif_neg h];refine⟨fun b hb=>?_,by simp⟩
   rcases List.mem_append.1 hb with hb|hb
   ·exact(ih (u / 10) (by omega)).1 b hb
   ·rw[List.mem_singleton.1 hb];exact hd _ (by omega)
theorem dec_parse:∀(u:Nat),u<9223372036854775808->∀rest,Lib.parseUintM (2 ^ 64-1) 0 (Lib.decDigits u++rest)=Lib.parseUintM (2 ^ 64-1) u rest:=by
 intro u;induction u using Nat.strongRecOn with
 |_ u ih=>
  intro hu rest;have hd:∀m,m<10->(UInt8.ofNat (48+m)).toNat=48+m:=fun m hm=>UInt8.toNat_ofNat_of_lt' (by show 48+m<256;omega)
  by_cases h:u<10
  ·rw[Lib.decDigits,dif_pos h];simp only[List.cons_append,List.nil_append,Lib.parseUintM];rw[hd u h,if_pos (by omega),if_neg (by omega),if_neg (by omega)]
   congr 1;omega
  ·rw[Lib.decDigits,dif_neg h,List.append_assoc,ih (u / 10) (by omega) (by omega)]
   simp only[List.cons_append,List.nil_append,Lib.parseUintM];have:=hd (u % 10) (by omega)
   rw[this,if_pos (by omega),if_neg (by omega),if_neg (by omega)]
   congr 1;omega
theorem zdR{x:Int}(h0:0<=x)(h1:x<=9223372036854775807):vP x:=by
 obtain⟨u,rfl⟩:∃u:Nat,x=u:=⟨x.toNat,by omega⟩
 have hi:Lib.itoa (u:Int)=Lib.decDigits u:=by unfold Lib.itoa;rw[if_neg (by omega)];simp
 obtain⟨ha,hn⟩:=zh2 u
 have hp:=dec_parse u (by omega) []
 rw[List.append_nil] at hp;have hv:numOf ⟨(Lib.itoa (u:Int)).toArray⟩=((u:Int),0):=by
  unfold numOf;rw[hi];simp only[List.toList_toArray];cases hc:Lib.decDigits u with
  |nil=>exact absurd hc hn
  |cons c r=>
   have hcc:=ha c (by rw[hc];simp)
   have hpu:Lib.parseUintB 64 (c::r)= .ok u:=by
    unfold Lib.parseUintB;rw[if_neg (by simp),<-hc,hp]
    simp only[Lib.parseUintM]
   have hpi:Lib.parseIntB 64 (c::r)= .ok (u:Int):=by
    unfold Lib.parseIntB;simp only[];rw[if_neg (show ¬(c.toNat=43\/c.toNat=45) by omega),hpu]
    simp only[];rw[if_neg (by rintro⟨_,h⟩;revert h;show ¬(9223372036854775808<=u);omega),if_neg (by rintro⟨h,_⟩;omega),if_neg (by omega)]
   rw[hpi]
 have hdig:∀b∈Lib.decDigits u,isDigit (b.toNat:Int)=true:=fun b hb=>by
  have:=ha b hb
  unfold isDigit;simp only[Bool.and_eq_true,decide_eq_true_eq];omega
 refine⟨_,rfl,?_,hv, .num ?_ (by rw[hv]) ?_⟩
 ·unfold zK;rw[hi];simp only[List.toList_toArray];cases hc:Lib.decDigits u with
  |nil=>exact absurd hc hn
  |cons c r=>exact hdig c (by rw[hc];simp)
 ·rw[hi];simpa using hdig
 ·rw[hi];show 0<(Lib.decDigits u).toArray.size;cases hc:Lib.decDigits u with
  |nil=>exact absurd hc hn
  |cons c r=>simp
theorem zb3{o:Int}(h:1<=o/\o<=15):Good (opName o):=by
 have:o=1\/o=2\/o=3\/o=4\/o=5\/o=6\/o=7\/o=8\/o=9\/o=10\/o=11\/o=12\/o=13\/o=14\/o=15:=by omega
 rcases this with rfl|rfl|rfl|rfl|rfl|rfl|rfl|rfl|rfl|rfl|rfl|rfl|rfl|rfl|rfl;all_goals first
  |exact .two (by decide+kernel)
  |exact .one _ rfl (by decide+kernel)
theorem good_kw{p:ByteArray}(h1:isLetter (zK p)=true)(h2:p.data.toList.all (fun b=>yn (b.toNat:Int))=true)(h3:p.size<=16)(h4:0<p.size):Good p:=
 .word h1 (fun b hb=>List.all_eq_true.1 h2 b hb) h3 h4
def GoodL(l:List Pc):Prop:=∀x∈l,x.1∈zd/\Good x.2
theorem GoodL.nil:GoodL []:=fun x h=>by cases h
theorem GoodL.cons{f:List UInt8}{p:ByteArray}{l:List Pc}(hf:f∈zd)(hp:Good p)(h:GoodL l):GoodL ((f,p)::l):=fun x hx=>by
 rcases List.mem_cons.1 hx with rfl|hx
 ·exact⟨hf,hp⟩
 ·exact h x hx
theorem GoodL.app{l m:List Pc}(h:GoodL l)(h2:GoodL m):GoodL (l++m):=fun x hx=>(List.mem_append.1 hx).elim (h x) (h2 x)
theorem zir{tg:Tg}{i:Nat}{ts ts':List Tr}{l:List Pc}(h:W tg i ts l ts'):GoodL l:=by
 have one:∀(p:ByteArray) (b:UInt8),p.data.toList=[b]->(b.toNat:Int)∈ones->Good p:=fun p b h1 h2=> .one b h1 h2;have gLp:Good sLp:=one _ 40 rfl (by decide+kernel)
 have gRp:Good sRp:=one _ 41 rfl (by decide+kernel)
 have gLb:Good sLb:=one _ 91 rfl (by decide+kernel)
 have gRb:Good sRb:=one _ 93 rfl (by decide+kernel)
 have gLc:Good sLc:=one _ 123 rfl (by decide+kernel)
 have gRc:Good sRc:=one _ 125 rfl (by decide+kernel)
 have gSm:Good sSm:=one _ 59 rfl (by decide+kernel)
 have gAs:Good sAs:= .two (by decide+kernel)
 induction h with
 |wrap hf hg h ih=>exact .cons hf gLp (ih.app (.cons hg gRp .nil))
 |num hf h=>obtain⟨p,rfl,_,_,hg⟩:=h;exact .cons hf hg .nil
 |tru hf=>exact .cons hf (good_kw (by decide+kernel) (by decide+kernel) (by decide+kernel) (by decide+kernel)) .nil
 |fls hf=>exact .cons hf (good_kw (by decide+kernel) (by decide+kernel) (by decide+kernel) (by decide+kernel)) .nil
 |read hf hs=>exact .cons hf (yJ hs).2.2 .nil
 |load hf hg hh hs he ih=>exact .cons hf (yJ hs).2.2 (.cons hg gLb (ih.app (.cons hh gRb .nil)))
 |un hf ho he ih=>exact .cons hf (zb3 (by omega)) ih
 |bin hf ho hk hx hy ihx ihy=>exact ihx.app (.cons hf (zb3 (by omega)) ihy)
 |assign hf hg hh hs he ih=>exact .cons hf (yJ hs).2.2 (.cons hg gAs (ih.app (.cons hh gSm .nil)))
 |store hf hg hh hh2 hh3 hs hx hy ihx ihy=>exact .cons hf (yJ hs).2.2 (.cons hg gLb (ihx.app (.cons hh gRb (.cons hh2 gAs (ihy.app (.cons hh3 gSm .nil))))))
 |input hf hg hh hs=>exact .cons hf (good_kw (by decide+kernel) (by decide+kernel) (by decide+kernel) (by decide+kernel)) (.cons hg (yJ hs).2.2 (.cons hh gSm .nil))
 |assert hf hh he ih=>exact .cons hf (good_kw (by decide+kernel) (by decide+kernel) (by decide+kernel) (by decide+kernel)) (ih.app (.cons hh gSm .nil))
 |skip hf hh=>exact .cons hf (good_kw (by decide+kernel) (by decide+kernel) (by decide+kernel) (by decide+kernel)) (.cons hh gSm .nil)
 |if1 hf he hx ih ihx=>exact .cons hf (good_kw (by decide+kernel) (by decide+kernel) (by decide+kernel) (by decide+kernel)) (ih.app ihx)
 |if2 hf hg he hx hy ih ihx ihy=>exact .cons hf (good_kw (by decide+kernel) (by decide+kernel) (by decide+kernel) (by decide+kernel)) (ih.app (ihx.app (.cons hg (good_kw (by decide+kernel) (by decide+kernel) (by decide+kernel) (by decide+kernel)) ihy)))
 | «while» hf he hx ih ihx=>exact .cons hf (good_kw (by decide+kernel) (by decide+kernel) (by decide+kernel) (by decide+kernel)) (ih.app ihx)
 |nil=>exact .nil
 |cons h h2 ih ih2=>exact ih.app ih2
 |blk hf hg h ih=>exact .cons hf gLc (ih.app (.cons hg gRc .nil))
 |sts h ih=>exact ih
 |var hf hg hh hs h2 ih=>exact .cons hf (good_kw (by decide+kernel) (by decide+kernel) (by decide+kernel) (by decide+kernel)) (.cons hg (yJ hs).2.2 (.cons hh gSm ih))
 |arr hf hg hh hh2 hh3 hh4 hs hn h5 ih=>
  obtain⟨p,rfl,_,_,hgn⟩:=hn
  exact .cons hf (good_kw (by decide+kernel) (by decide+kernel) (by decide+kernel) (by decide+kernel)) (.cons hg (yJ hs).2.2 (.cons hh gLb (.cons hh2 hgn (.cons hh3 gRb (.cons hh4 gSm ih)))))
def noAt(l:List Nd):List Nd:=l.map fun n=>{n with at_:=0}
theorem noAt_append(a b:List Nd):noAt (a++b)=noAt a++noAt b:=by simp[noAt]
theorem kg{tg:Tg}{i:Nat}{ts ts':List Tr}{l:List Pc}(h:W tg i ts l ts'):∀d,noAt (flatTs ts' d)=noAt (flatTs ts d):=by
 have one:∀(t:Tr) (d:Int),flatTs [t] d=flatT t d:=fun t d=>by simp[flatTs]
 have two:∀(t u:Tr) (d:Int),flatTs [t,u] d=flatT t d++flatT u d:=fun t u d=>by simp[flatTs]
 have three:∀(t u v:Tr) (d:Int),flatTs [t,u,v] d=flatT t d++(flatT u d++flatT v d):=fun t u v d=>by simp[flatTs]
 have cns:∀(t:Tr) (ts:List Tr) (d:Int),flatTs (t::ts) d=flatT t d++flatTs ts d:=fun t ts d=>by simp[flatTs]
 have hd:∀(n:Nd) (m:List Nd),noAt (n::m)={n with at_:=0}::noAt m:=fun n m=>rfl;induction h with
 |wrap hf hg h ih=>exact ih
 |num hf h=>intro d;rfl
 |tru hf=>intro d;rfl
 |fls hf=>intro d;rfl
 |read hf hs=>intro d;rfl
 |load hf hg hh hs he ih=>intro d;simp only[one,flatT,leafT,hd];have:=ih (d+1);simp only[one] at this;simp only[this]
 |un hf ho he ih=>intro d;simp only[one,flatT,leafT,hd];have:=ih (d+1);simp only[one] at this;simp only[this]
 |bin hf ho hk hx hy ihx ihy=>intro d;have h1:=ihx (d+1);have h2:=ihy (d+1);simp only[one] at h1 h2;simp only[one,flatT,leafT,hd,two,noAt_append,h1,h2]
 |assign hf hg hh hs he ih=>intro d;simp only[one,flatT,leafT,hd];have:=ih (d+1);simp only[one] at this;simp only[this]
 |store hf hg hh hh2 hh3 hs hx hy ihx ihy=>intro d;have h1:=ihx (d+1);have h2:=ihy (d+1);simp only[one] at h1 h2;simp only[one,flatT,leafT,hd,two,noAt_append,h1,h2]
 |input hf hg hh hs=>intro d;rfl
 |assert hf hh he ih=>intro d;simp only[one,flatT,leafT,hd];have:=ih (d+1);simp only[one] at this;simp only[this]
 |skip hf hh=>intro d;rfl
 |if1 hf he hx ih ihx=>intro d;have h1:=ih (d+1);have h2:=ihx (d+1);simp only[one] at h1 h2;simp only[one,flatT,leafT,hd,two,noAt_append,h1,h2]
 |if2 hf hg he hx hy ih ihx ihy=>intro d;have h1:=ih (d+1);have h2:=ihx (d+1);have h3:=ihy (d+1);simp only[one] at h1 h2 h3;simp only[one,flatT,leafT,hd,three,noAt_append,h1,h2,h3]
 | «while» hf he hx ih ihx=>intro d;have h1:=ih (d+1);have h2:=ihx (d+1);simp only[one] at h1 h2;simp only[one,flatT,leafT,hd,two,noAt_append,h1,h2]
 |nil=>intro d;rfl
 |cons h h2 ih ih2=>intro d;have h1:=ih d;have h3:=ih2 d;simp only[one] at h1;simp only[cns,noAt_append,h1,h3]
 |blk hf hg h ih=>intro d;have h1:=ih (d+1);simp only[one,flatT,leafT,hd,h1]
 |sts h ih=>exact ih
 |var hf hg hh hs h2 ih=>intro d;simp only[cns,flatT,flatTs,leafT,hd,noAt_append,ih d]
 |arr hf hg hh hh2 hh3 hh4 hs hn h5 ih=>intro d;simp only[cns,flatT,flatTs,leafT,hd,noAt_append,ih d]
theorem made_parses{ts ts':List Tr}{l:List Pc}(h:W .p 0 ts l ts')(hl:(flatTs ts 1).length<=300)(hd:∀n∈flatTs ts 1,n.depth<=24):qT (textOf l) (if 8192<(textOf l).size then .fault 21 8192 else .tree (flatTs ts' 1)):=by
 unfold qT;by_cases hz:8192<(textOf l).size
 ·rw[if_pos hz,if_pos hz]
 ·rw[if_neg hz,if_neg hz];have hp:=zdO l (zir h);rw[hp,bad_its,if_neg (by decide)]
  have hl0:(ctx0 (textOf l)).l=its 0 l:=by
   show zr (pieces (textOf l))=_;rw[hp,good_its]
  have hr:To (ctx0 (textOf l)) .prog 0 (.ok ts' (0+l.length)):=w_reads (C:=ctx0 (textOf l)) h 0 (fun r x hx=>by rw[hl0,Nat.zero_add];exact hx) (by rw[hl0,vK];omega)
  obtain⟨f,hr⟩:=hr
  refine⟨f,_,hr,?_⟩;have hs:=kg h 1;have hlen:(flatTs ts' 1).length=(flatTs ts 1).length:=by
   have:=congrArg List.length hs
   simpa [noAt] using this
  show _=jv (flatTs ts' 1);unfold jv;rw[if_neg (by omega)]
  have hfind:(flatTs ts' 1).find? (fun n=>decide (24<n.depth))=none:=by
   rw[List.find?_eq_none];intro n hn;have hm:({n with at_:=0}:Nd)∈noAt (flatTs ts' 1):=List.mem_map_of_mem hn;rw[hs] at hm;obtain⟨m,hm1,hm2⟩:=List.mem_map.1 hm
   have:=hd m hm1
   have e:m.depth=n.depth:=by have:=congrArg Nd.depth hm2;exact this
   simp only[decide_eq_true_eq];omega
  rw[hfind]
theorem zfC(n:Int)(m:Nat)(hm:0<m)(hm2:m<=9223372036854775807)(w:World):
 Calls Tryz.prog 23 #[.int .i64 n, .int .i64 m] w fun e w'=>(∃k:Nat,k<m/\e= .returned (.int .i64 k))/\w'=w:=by
 have h2:(Int.tmod n m).natAbs<m:=by rw[Int.natAbs_tmod];exact Nat.mod_lt _ (by simpa using hm)
 have h1: -(m:Int)<Int.tmod n m/\Int.tmod n m<m:=by omega
 clear h2;have hz:((m:Int)==0)=false:=by simp;omega
 generalize hr:Int.tmod n m=r at h1;by_cases h0:r<0
 ·go_enter Tryz.func23,Tryz.ntmps23;go_wp2;go_ret;exact⟨⟨(r+m).toNat,by omega,by show Ending.returned (Value.int IntKind.i64 (r+m))=_;rw[Int.toNat_of_nonneg (by omega)]⟩,rfl⟩
 ·go_enter Tryz.func23,Tryz.ntmps23;go_wp2;go_ret;exact⟨⟨r.toNat,by omega,by show Ending.returned (Value.int IntKind.i64 r)=_;rw[Int.toNat_of_nonneg (by omega)]⟩,rfl⟩
def cont(k:Int):Bool:=decide (0<rwants k) || decide (k=9)
inductive St:Hold->Int->Prop
 |one0 (h:Hold) (hk:h.kind=2\/h.kind=5\/h.kind=13\/h.kind=14) (hw:h.wants=[0]):St h 0
 |one1 (h:Hold) (hk:h.kind=2\/h.kind=5\/h.kind=13\/h.kind=14) (hw:h.wants=[]):St h 1
 |two0 (h:Hold) (hk:h.kind=3\/h.kind=15) (hw:h.wants=[0,0]):St h 0
 |two1 (h:Hold) (hk:h.kind=3\/h.kind=15) (hw:h.wants=[0]):St h 1
 |two2 (h:Hold) (hk:h.kind=3\/h.kind=15) (hw:h.wants=[]):St h 2
 |if0 (h:Hold) (hk:h.kind=7) (hw:h.wants=[0,1]) (hb:h.blocks=0):St h 0
 |if1 (h:Hold) (hk:h.kind=7) (hw:h.wants=[1]) (hb:h.blocks=0):St h 1
 |if2 (h:Hold) (hk:h.kind=7) (hw:h.wants=[]) (hb:h.blocks=1):St h 2
 |if3 (h:Hold) (hk:h.kind=7) (hw:h.wants=[]) (hb:h.blocks=2):St h 3
 |while0 (h:Hold) (hk:h.kind=8) (hw:h.wants=[0,1]):St h 0
 |while1 (h:Hold) (hk:h.kind=8) (hw:h.wants=[1]):St h 1
 |while2 (h:Hold) (hk:h.kind=8) (hw:h.wants=[]):St h 2
 |block (h:Hold) (n:Int) (hk:h.kind=9) (hw:h.wants=[]) (hn:0<=n):St h n
structure Good1 (j:Nat) (h:Hold) (r:Opn):Prop where
 hd:h.depth=j+1
 rd:r.depth=j+1
 kd:r.kind=h.kind
 st:St h r.has
 bl:0<=h.blocks/\h.blocks+(h.wants.count 1:Nat)<=2
theorem zh7{b x:Int}{rest:List Int}(h:0<=b/\b+((x::rest).count 1:Nat)<=2):0<=(if x=1 then b+1 else b)/\(if x=1 then b+1 else b)+(rest.count 1:Nat)<=2:=by
 by_cases e:x=1
 ·subst e;rw[List.count_cons_self] at h;rw[if_pos rfl];omega
 ·rw[List.count_cons_of_ne e] at h;rw[if_neg e];exact h
theorem St.lacks{h:Hold}{r:Opn}(hs:St h r.has)(hk:r.kind=h.kind):lacks r=!h.wants.isEmpty:=by
 unfold Go.Proofs.YtonmcakdofbjiaaGreatDoor.lacks;rw[hk];generalize r.has=x at hs;cases hs with
 |one0 hk hw=>rcases hk with hk|hk|hk|hk<;>rw[hk,hw]<;>rfl
 |one1 hk hw=>rcases hk with hk|hk|hk|hk<;>rw[hk,hw]<;>rfl
 |two0 hk hw=>rcases hk with hk|hk<;>rw[hk,hw]<;>rfl
 |two1 hk hw=>rcases hk with hk|hk<;>rw[hk,hw]<;>rfl
 |two2 hk hw=>rcases hk with hk|hk<;>rw[hk,hw]<;>rfl
 |if0 hk hw=>rw[hk,hw];rfl
 |if1 hk hw=>rw[hk,hw];rfl
 |if2 hk hw=>rw[hk,hw];rfl
 |if3 hk hw=>rw[hk,hw];rfl
 |while0 hk hw=>rw[hk,hw];rfl
 |while1 hk hw=>rw[hk,hw];rfl
 |while2 hk hw=>rw[hk,hw];rfl
 |block _ hk hw hn=>
  rw[hk,hw];have:¬x<rwants 9:=by show ¬x<0;omega
  simp[this]
structure Cr (c:List Hold) (st:List Opn):Prop where
 len:st.length=c.length
 good:∀(j:Nat) (h:Hold) (r:Opn),c[j]? =some h->st[j]? =some r->Good1 j h r
 above:∀(i j:Nat) (h g:Hold),i<j->c[i]? =some h->h.wants≠[]->c[j]? =some g->ze g.kind=true
theorem Cr.take{c:List Hold}{st:List Opn}(h:Cr c st)(k:Nat):Cr (c.take k) (st.take k):=by
 have e1:∀{α:Type} (l:List α) (j:Nat) (x:α),(l.take k)[j]? =some x->l[j]? =some x:=fun l j x hx=>by
  rw[List.getElem?_take] at hx
  split at hx
  ·exact hx
  ·cases hx
 exact⟨by simp[h.len],fun j a b ha hb=>h.good j a b (e1 _ _ _ ha) (e1 _ _ _ hb),fun i j a b hij ha hw hb=>h.above i j a b hij (e1 _ _ _ ha) hw (e1 _ _ _ hb)⟩
theorem Cr.push{c:List Hold}{st:List Opn}(h:Cr c st)(a:Hold)(r:Opn)(hg:Good1 c.length a r)(hab:∀(i:Nat) (b:Hold),c[i]? =some b->b.wants≠[]->ze a.kind=true):Cr (c++[a]) (st++[r]):=by
 have split1:∀{α:Type} (l:List α) (y:α) (j:Nat) (x:α),(l++[y])[j]? =some x->(j<l.length/\l[j]? =some x)\/(j=l.length/\x=y):=fun l y j x hx=>by
  by_cases hj:j<l.length
  ·rw[List.getElem?_append_left hj] at hx;exact .inl ⟨hj,hx⟩
  ·rw[List.getElem?_append_right (by omega)] at hx
   have:j-l.length=0:=by
    rcases Nat.eq_zero_or_pos (j-l.length) with h0|h0
    ·exact h0
    ·rw[List.getElem?_eq_none (by simp;omega)] at hx;cases hx
   rw[this] at hx;exact .inr ⟨by omega,by simpa using hx.symm⟩
 refine⟨by simp[h.len],fun j x y hx hy=>?_,fun i j x y hij hx hw hy=>?_⟩
 ·rcases split1 _ _ _ _ hx with⟨h1,h2⟩|⟨h1,rfl⟩
  ·rcases split1 _ _ _ _ hy with⟨h3,h4⟩|⟨h3,rfl⟩
   ·exact h.good j x y h2 h4
   ·have:=h.len;omega
  ·rcases split1 _ _ _ _ hy with⟨h3,h4⟩|⟨h3,rfl⟩
   ·have:=h.len;omega
   ·rw[h1];exact hg
 ·rcases split1 _ _ _ _ hy with⟨h1,h2⟩|⟨h1,rfl⟩
  ·rcases split1 _ _ _ _ hx with⟨h3,h4⟩|⟨h3,rfl⟩
   ·exact h.above i j x y hij h4 hw h2
   ·omega
  ·rcases split1 _ _ _ _ hx with⟨h3,h4⟩|⟨h3,rfl⟩
   ·exact hab i x h4 hw
   ·omega
theorem cut_depth{α:Type}(f:α->Int)(l:List α)(hl:∀(j:Nat) (x:α),l[j]? =some x->f x=j+1)(d:Int):cutN (fun x=>decide (f x<d)) l=min l.length (d-1).toNat:=by
 refine wS ?_ fun j y hj hy=>?_
 ·rcases Nat.eq_zero_or_pos (min l.length (d-1).toNat) with h|h
  ·exact .inl h
  ·right;have hlt:min l.length (d-1).toNat-1<l.length:=by omega
   refine⟨l[min l.length (d-1).toNat-1],List.getElem?_eq_getElem hlt,?_⟩;have:=hl _ _ (List.getElem?_eq_getElem hlt)
   exact decide_eq_true (by omega)
 ·have:=hl _ _ hy
  have:=(List.getElem?_eq_some_iff.1 hy).1
  exact decide_eq_false (by omega)
structure ShI (o:List Hold) (heads:Bool) (st:List Opn) (begun:Bool):Prop where
 open_:∃c lf,o=c++lf/\Cr c st/\(lf=[]\/∃h,lf=[h]/\h.wants=[]/\h.depth=c.length+1/\cont h.kind=false/\h.blocks=0)
 heads:heads=!begun
 beg:st≠[]->begun=true
theorem ShI.start:ShI [] true [] false:=⟨⟨[],[],rfl,⟨rfl,fun j h r hh=>by simp at hh,fun i j h g _ hh=>by simp at hh⟩, .inl rfl⟩,rfl,fun h=>absurd rfl h⟩
section
variable {o:List Hold} {heads begun:Bool} {st:List Opn}
theorem ShI.depth(h:ShI o heads st begun):∀(j:Nat) (x:Hold),o[j]? =some x->x.depth=j+1:=by
 obtain⟨⟨c,lf,rfl,hc,hlf⟩,_⟩:=h
 intro j x hx;by_cases hj:j<c.length
 ·rw[List.getElem?_append_left hj] at hx;have hs:j<st.length:=by rw[hc.len];exact hj
  exact(hc.good j x _ hx (List.getElem?_eq_getElem hs)).hd
 ·rw[List.getElem?_append_right (by omega)] at hx
  rcases hlf with rfl|⟨g,rfl,h1,h2,_⟩
  ·simp at hx
  ·cases hk:j-c.length with
   |zero=>rw[hk] at hx;simp at hx;subst hx;rw[h2];omega
   |succ m=>rw[hk] at hx;simp at hx
theorem ShI.small(h:ShI o heads st begun):∀(j:Nat) (x:Hold),o[j]? =some x->0<=x.blocks/\x.blocks<=2:=by
 obtain⟨⟨c,lf,rfl,hc,hlf⟩,_⟩:=h
 intro j x hx;by_cases hj:j<c.length
 ·rw[List.getElem?_append_left hj] at hx;have hs:j<st.length:=by rw[hc.len];exact hj
  have:=(hc.good j x _ hx (List.getElem?_eq_getElem hs)).bl
  omega
 ·rw[List.getElem?_append_right (by omega)] at hx
  rcases hlf with rfl|⟨g,rfl,h1,h2,h3,h4⟩
  ·simp at hx
  ·cases hk:j-c.length with
   |zero=>rw[hk] at hx;simp at hx;subst hx;rw[h4];decide
   |succ m=>rw[hk] at hx;simp at hx
theorem ShI.rdepth(h:ShI o heads st begun):∀(j:Nat) (x:Opn),st[j]? =some x->x.depth=j+1:=by
 obtain⟨⟨c,lf,rfl,hc,hlf⟩,_⟩:=h
 intro j x hx;have hs:j<c.length:=by rw[<-hc.len];exact(List.getElem?_eq_some_iff.1 hx).1
 exact(hc.good j _ x (List.getElem?_eq_getElem hs) hx).rd
theorem ShI.rcut(h:ShI o heads st begun)(d:Int):rcut d st=min st.length (d-1).toNat:=by
 unfold Go.Proofs.YtonmcakdofbjiaaGreatDoor.rcut;exact cut_depth (fun t:Opn=>t.depth) st h.rdepth d
theorem any_lacks{c:List Hold}{st:List Opn}(h:Cr c st)(k:Nat):(st.drop k).any lacks=true↔∃(j:Nat) (g:Hold),k<=j/\c[j]? =some g/\g.wants≠[]:=by
 rw[List.any_eq_true];constructor
 ·rintro⟨r,hr,hl⟩
  obtain⟨j,hj,rfl⟩:=List.getElem_of_mem hr
  simp only[List.length_drop] at hj;have hlen:=h.len;have hc:k+j<c.length:=by omega
  have hs:k+j<st.length:=by omega
  refine⟨k+j,c[k+j],by omega,List.getElem?_eq_getElem hc,fun e=>?_⟩
  have hg:=h.good (k+j) _ _ (List.getElem?_eq_getElem hc) (List.getElem?_eq_getElem hs);rw[List.getElem_drop,hg.st.lacks hg.kd,e] at hl;cases hl
 ·rintro⟨j,g,hj,hg,hw⟩
  have hc:=(List.getElem?_eq_some_iff.1 hg).1;have hs:j<st.length:=by rw[h.len];exact hc
  have hgd:=h.good j g _ hg (List.getElem?_eq_getElem hs);refine⟨st[j],List.mem_iff_getElem?.2 ⟨j-k,?_⟩,?_⟩
  ·rw[List.getElem?_drop,show k+(j-k)=j from by omega];exact List.getElem?_eq_getElem hs
  ·rw[hgd.st.lacks hgd.kd];cases hgw:g.wants with
   |nil=>exact absurd hgw hw
   |cons _ _=>rfl
theorem vY{h:Hold}{r:Opn}(hs:St h r.has)(hk:r.kind=h.kind)(hw:h.wants=[])(k:Int):rholds r k=((decide (h.kind=9)&&zx k) || (decide (h.kind=7/\h.blocks=1)&&decide (k=9))):=by
 unfold rholds;rw[hk];generalize r.has=x at hs;cases hs with
 |one0 hk hw'=>rw[hw] at hw';cases hw'
 |one1 hk hw'=>rcases hk with hk|hk|hk|hk<;>rw[hk]<;>simp[rwants]
 |two0 hk hw'=>rw[hw] at hw';cases hw'
 |two1 hk hw'=>rw[hw] at hw';cases hw'
 |two2 hk hw'=>rcases hk with hk|hk<;>rw[hk]<;>simp[rwants]
 |if0 hk hw'=>rw[hw] at hw';cases hw'
 |if1 hk hw'=>rw[hw] at hw';cases hw'
 |if2 hk hw' hb=>rw[hk,hb];simp
 |if3 hk hw' hb=>rw[hk,hb];simp
 |while0 hk hw'=>rw[hw] at hw';cases hw'
 |while1 hk hw'=>rw[hw] at hw';cases hw'
 |while2 hk hw'=>rw[hk];simp
 |block _ hk hw' hn=>rw[hk];simp
theorem kG{k:Int}(h:cont k=false):zC k=[]/\¬(0<rwants k\/k=9)/\k≠7/\k≠9:=by
 unfold cont at h;simp only[Bool.or_eq_false_iff,decide_eq_false_iff_not] at h;obtain⟨h1,h2⟩:=h
 unfold rwants at h1;unfold zC;refine⟨?_,?_,?_,h2⟩
 ·split at h1
  ·exact absurd (by decide) h1
  ·rename_i a;rw[if_neg a]
   split at h1
   ·exact absurd (by decide) h1
   ·rename_i b;rw[if_neg (by omega),if_neg (by omega)]
 ·unfold rwants;simp only[not_or];exact⟨h1,h2⟩
 ·rintro rfl;exact h1 (by decide)
theorem new_good{k d:Int}(hc:cont k=true)(j:Nat)(hd:d=j+1):Good1 j ⟨k,d,zC k,0⟩ ⟨d,k,0⟩:=by
 have hbl:(0:Int)<=0/\(0:Int)+((zC k).count 1:Nat)<=2:=by
  unfold zC;split
  ·decide
  ·split
   ·decide
   ·split<;>decide
 refine⟨hd,hd,rfl,?_,hbl⟩;unfold cont rwants at hc;simp only[Bool.or_eq_true,decide_eq_true_eq] at hc;by_cases h1:k=2\/k=5\/k=13\/k=14
 ·exact .one0 _ h1 (by simp[zC,h1])
 ·by_cases h2:k=3\/k=15
  ·exact .two0 _ h2 (by simp[zC,h1,h2])
  ·by_cases h3:k=7
   ·subst h3;exact .if0 _ rfl rfl rfl
   ·by_cases h4:k=8
    ·subst h4;exact .while0 _ rfl rfl
    ·by_cases h5:k=9
     ·subst h5;exact .block _ _ rfl rfl (Int.le_refl _)
     ·exfalso;rw[if_neg h1,if_neg (by omega)] at hc
      omega
theorem ShI.behind{c:List Hold}{st':List Opn}(hc:Cr c st')(n:Nd)(hd:n.depth=c.length+1)(hab:cont n.kind=true->∀(i:Nat) (b:Hold),c[i]? =some b->b.wants≠[]->ze n.kind=true){heads' begun':Bool}(hh:heads'=!begun')(hb:c≠[]\/cont n.kind=true->begun'=true):
 ShI (c++[⟨n.kind,n.depth,zC n.kind,0⟩]) heads' (yT st' n) begun':=by
 unfold yT;cases hk:cont n.kind with
 |true=>
  have e:0<rwants n.kind\/n.kind=9:=by unfold cont at hk;simpa using hk
  rw[if_pos e];exact⟨⟨_,[],by simp,hc.push _ _ (new_good hk _ hd) (hab hk), .inl rfl⟩,hh,fun _=>hb (.inr hk)⟩
 |false=>
  obtain⟨h1,h2,_⟩:=kG hk
  rw[if_neg h2];refine⟨⟨c,_,rfl,hc, .inr ⟨_,rfl,h1,hd,hk,rfl⟩⟩,hh,fun hs=>hb (.inl ?_)⟩;rintro rfl;exact hs (List.eq_nil_of_length_eq_zero hc.len)
def Same(x:Option (List Hold×Bool))(y:Option (List Opn×Bool))(n:Nd):Prop:=
 (x=none/\y=none)\/∃o' h' st' b',x=some (o',h')/\y=some (st',b')/\(o'.length:Int)=n.depth/\ShI o' h' (yT st' n) b'
theorem take_last{α:Type}{l:List α}{i:Nat}{x:α}(h:l[i]? =some x):l.take (i+1)=l.take i++[x]:=by
 rw[List.take_add_one,h];rfl
theorem stand_same(h:ShI o heads st begun)(ho:o.length<=24)(n:Nd)(hlo: -9223372036854775808<=n.depth)(hhi:n.depth<=9223372036854775807):Same (xg o heads n) (yA st begun n) n:=by
 unfold xg yA;cases hf:fieldsB n with
 |false=>left;simp
 |true=>
  simp only[Bool.true_eq_false,if_false,or_false];have hdep:=h.depth;have hrd:=h.rdepth;have hhd:=h.heads;have hbg:=h.beg;rw[h.rcut n.depth];obtain⟨⟨c,lf,rfl,hc,hlf⟩,_,_⟩:=id h
  have hlen:=hc.len;have hcut:∀o1:List Hold,(∀(j:Nat) (x:Hold),o1[j]? =some x->x.depth=j+1)->popF n.depth o1=o1.take (min o1.length (n.depth-1).toNat):=fun o1 h1=>by
   unfold popF;rw[cut_depth (fun x:Hold=>x.depth) o1 h1]
  have hlw:∀(j:Nat) (x:Hold),c.length<=j->(c++lf)[j]? =some x->x.wants=[]/\cont x.kind=false:=fun j x hj hx=>by
   rw[List.getElem?_append_right hj] at hx;rcases hlf with rfl|⟨g,rfl,h1,_,h2⟩
   ·simp at hx
   ·cases hk:j-c.length with
    |zero=>rw[hk] at hx;simp at hx;subst hx;exact⟨h1,h2.1⟩
    |succ m=>rw[hk] at hx;simp at hx
  have hcl:c.length<=(c++lf).length:=by simp
  have hlfl:(c++lf).length<=c.length+1:=by
   rcases hlf with rfl|⟨g,rfl,_⟩<;>simp
  cases hwi:xf (c++lf) with
  |some w=>
   obtain⟨⟨g,hg,hgw⟩,hbe⟩:=yx hwi
   have hgw':g.wants≠[]:=by intro e;rw[e] at hgw;cases hgw
   have hwc:w<c.length:=by
    rcases Nat.lt_or_ge w c.length with h'|h'
    ·exact h'
    ·exact absurd (hlw w g h' hg).1 hgw'
   have hcg:c[w]? =some g:=by rw[List.getElem?_append_left hwc] at hg;exact hg
   have hsw:st[w]? =some st[w]:=List.getElem?_eq_getElem (by omega)
   generalize hr:st[w]=r at hsw;have hG:=hc.good w g r hcg hsw;have hbeh:∀(j:Nat) (x:Hold),w<j->c[j]? =some x->x.wants=[]/\ze x.kind=true:=fun j x hj hx=>by
    have hjl:=(List.getElem?_eq_some_iff.1 hx).1;have:=hbe j x hj (by rw[List.getElem?_append_left hjl];exact hx)
    refine⟨?_,hc.above w j g x hj hcg hgw' hx⟩;cases hxw:x.wants with
    |nil=>rfl
    |cons _ _=>rw[hxw] at this;cases this
   have hb1:begun=true:=hbg (by rintro rfl;simp at hlen;omega)
   have hgd:=hG.hd;unfold takeF;simp only[hwi,hg];obtain⟨x,rest,hxr⟩:∃x rest,g.wants=x::rest:=by
    cases hgw2:g.wants with
    |nil=>exact absurd hgw2 hgw'
    |cons x rest=>exact⟨x,rest,rfl⟩
   simp only[hxr];by_cases hd:n.depth=w+2
   ·have hk:min st.length (n.depth-1).toNat=w+1:=by omega
    have hnl:((st.drop (w+1)).any lacks=true)=False:=by
     apply eq_false;rw[any_lacks hc];rintro⟨j,y,h1,h2,h3⟩
     exact h3 (hbeh j y (by omega) h2).1
    rw[hk];simp only[hnl,if_false,hsw];rw[if_neg (show ¬(n.depth≠((w+1:Nat):Int)+1) by omega)]
    have hdg:(n.depth≠g.depth+1)=False:=by apply eq_false;omega
    simp only[hdg,false_or];have acc:∀(g':Hold) (r':Opn),g'.kind=g.kind->Good1 w g' r'->n.kind≠0->n.kind≠1->(cont n.kind=true->ze n.kind=true\/(g'.wants=[]/\∀(i:Nat) (b:Hold),i<w->c[i]? =some b->b.wants=[]))->
     ∃o' h' st' b',some (popF n.depth ((c++lf).set w g')++[⟨n.kind,n.depth,zC n.kind,0⟩],if n.kind=0\/n.kind=1 then heads else false)=some (o',h')/\some (st.take w++[r'],begun)=some (st',b')/\(o'.length:Int)=n.depth/\ShI o' h' (yT st' n) b':=by
     intro g' r' hgk hG' h0 h1 hcase;refine⟨_,_,_,_,rfl,rfl,?_⟩;have e1:popF n.depth ((c++lf).set w g')=c.take w++[g']:=by
      rw[hcut _ fun j y hy=>?_]
      ·have e2:min ((c++lf).set w g').length (n.depth-1).toNat=w+1:=by rw[List.length_set];omega
       rw[e2];have e3:((c++lf).set w g')[w]? =some g':=by rw[List.getElem?_set_self (by simp;omega)]
       rw[take_last e3,List.take_set_of_le (by omega)]
       rw[List.take_append_of_le_length (by omega)]
      ·rw[List.getElem?_set] at hy
       split at hy
       ·rename_i e
        split at hy
        ·cases hy;subst e;exact hG'.hd
        ·cases hy
       ·exact hdep j y hy
     rw[e1,if_neg (by omega)]
     have hcw:(c.take w).length=w:=by simp;omega
     have hC:Cr (c.take w++[g']) (st.take w++[r']):=by
      refine(hc.take w).push g' r' (by rw[hcw];exact hG') fun i b hb hbw=>?_
      have hiw:i<w:=by have:=(List.getElem?_eq_some_iff.1 hb).1;omega
      rw[List.getElem?_take,if_pos hiw] at hb;rw[hgk];exact hc.above i w b g hiw hb hbw hcg
     refine⟨by simp;omega,ShI.behind hC n (by simp;omega) ?_ (by rw[hb1];rfl) fun _=>hb1⟩
     intro hk2 i b hb hbw;rcases hcase hk2 with h'|⟨h1',h2'⟩
     ·exact h'
     ·exfalso;by_cases hi:i<w
      ·rw[List.getElem?_append_left (by omega),List.getElem?_take,if_pos hi] at hb
       exact hbw (h2' i b hi hb)
      ·have hl:=(List.getElem?_eq_some_iff.1 hb).1;simp at hl;have:i=w:=by omega
       subst this;rw[List.getElem?_append_right (by omega),hcw] at hb
       simp at hb;subst hb;exact hbw h1'
    have ex:∀(g':Hold) (r':Opn),x=0->rholds r n.kind=ze n.kind->g'={g with wants:=rest,blocks:=if x=1 then g.blocks+1 else g.blocks}->r'={r with has:=r.has+1}->Good1 w g' r'->
     Same (match (if (x=0/\ze n.kind=false)\/(x=1/\n.kind≠9) then none else some ((c++lf).set w {g with wants:=rest,blocks:=if x=1 then g.blocks+1 else g.blocks})) with
      |none=>none
      |some o1=>some (popF n.depth o1++[⟨n.kind,n.depth,zC n.kind,0⟩],if n.kind=0\/n.kind=1 then heads else false)) (if rholds r n.kind=false then none else some (st.take w++[{r with has:=r.has+1}],begun)) n:=by
     rintro g' r' rfl hrh rfl rfl hG';rw[hrh];cases he:ze n.kind with
     |false=>left;simp
     |true=>
      right;have hke:10<=n.kind:=by unfold ze at he;simp at he;exact he.1
      have:=acc {g with wants:=rest,blocks:=if (0:Int)=1 then g.blocks+1 else g.blocks} {r with has:=r.has+1} rfl hG' (by omega) (by omega) fun _=> .inl he
      simpa using this
    have bl:∀(g':Hold) (r':Opn),x=1->rest=[]->(g.kind=7\/g.kind=8)->rholds r n.kind=decide (n.kind=9)->g'={g with wants:=rest,blocks:=if x=1 then g.blocks+1 else g.blocks}->r'={r with has:=r.has+1}->Good1 w g' r'->
     Same (match (if (x=0/\ze n.kind=false)\/(x=1/\n.kind≠9) then none else some ((c++lf).set w {g with wants:=rest,blocks:=if x=1 then g.blocks+1 else g.blocks})) with
      |none=>none
      |some o1=>some (popF n.depth o1++[⟨n.kind,n.depth,zC n.kind,0⟩],if n.kind=0\/n.kind=1 then heads else false)) (if rholds r n.kind=false then none else some (st.take w++[{r with has:=r.has+1}],begun)) n:=by
     rintro g' r' rfl rfl hgk hrh rfl rfl hG';rw[hrh];by_cases he:n.kind=9
     ·right;have:=acc {g with wants:=[],blocks:=if (1:Int)=1 then g.blocks+1 else g.blocks} {r with has:=r.has+1} rfl hG' (by omega) (by omega) fun _=> .inr ⟨rfl,fun i b hi hb=>by
       rcases Classical.em (b.wants=[]) with h'|h'
       ·exact h'
       ·have:=hc.above i w b g hi hb h' hcg
        unfold ze at this;simp at this;omega⟩
      simpa [he] using this
     ·left;simp[he]
    have hst:=hG.st;have hbl:=hG.bl;rw[hxr] at hbl;have hbl:=zh7 hbl;have hkd:=hG.kd;have hrdw:=hG.rd;clear acc;obtain⟨rd,rk,rh⟩:=r
    simp only at hkd hrdw hst
    subst hkd;cases hst with
    |one0 hk2 hw2=>
     rw[hxr] at hw2;obtain⟨rfl,rfl⟩:x=0/\rest=[]:=by simpa using hw2
     refine ex _ _ rfl ?_ rfl rfl ⟨hgd,hrdw,rfl, .one1 _ hk2 rfl,hbl⟩;unfold rholds;rcases hk2 with hk2|hk2|hk2|hk2<;>rw[hk2]<;>simp[rwants]
    |one1 hk2 hw2=>rw[hxr] at hw2;cases hw2
    |two0 hk2 hw2=>
     rw[hxr] at hw2;obtain⟨rfl,rfl⟩:x=0/\rest=[0]:=by simpa using hw2
     refine ex _ _ rfl ?_ rfl rfl ⟨hgd,hrdw,rfl, .two1 _ hk2 rfl,hbl⟩;unfold rholds;rcases hk2 with hk2|hk2<;>rw[hk2]<;>simp[rwants]
    |two1 hk2 hw2=>
     rw[hxr] at hw2;obtain⟨rfl,rfl⟩:x=0/\rest=[]:=by simpa using hw2
     refine ex _ _ rfl ?_ rfl rfl ⟨hgd,hrdw,rfl, .two2 _ hk2 rfl,hbl⟩;unfold rholds;rcases hk2 with hk2|hk2<;>rw[hk2]<;>simp[rwants]
    |two2 hk2 hw2=>rw[hxr] at hw2;cases hw2
    |if0 hk2 hw2 hb2=>
     rw[hxr] at hw2;obtain⟨rfl,rfl⟩:x=0/\rest=[1]:=by simpa using hw2
     refine ex _ _ rfl ?_ rfl rfl ⟨hgd,hrdw,rfl, .if1 _ hk2 rfl (by simpa using hb2),hbl⟩
     unfold rholds;rw[hk2];simp
    |if1 hk2 hw2 hb2=>
     rw[hxr] at hw2;obtain⟨rfl,rfl⟩:x=1/\rest=[]:=by simpa using hw2
     refine bl _ _ rfl rfl (.inl hk2) ?_ rfl rfl ⟨hgd,hrdw,rfl, .if2 _ hk2 rfl (by simp[hb2]),hbl⟩
     unfold rholds;rw[hk2];simp
    |if2 hk2 hw2=>rw[hxr] at hw2;cases hw2
    |if3 hk2 hw2=>rw[hxr] at hw2;cases hw2
    |while0 hk2 hw2=>
     rw[hxr] at hw2;obtain⟨rfl,rfl⟩:x=0/\rest=[1]:=by simpa using hw2
     refine ex _ _ rfl ?_ rfl rfl ⟨hgd,hrdw,rfl, .while1 _ hk2 rfl,hbl⟩;unfold rholds;rw[hk2];simp
    |while1 hk2 hw2=>
     rw[hxr] at hw2;obtain⟨rfl,rfl⟩:x=1/\rest=[]:=by simpa using hw2
     refine bl _ _ rfl rfl (.inr hk2) ?_ rfl rfl ⟨hgd,hrdw,rfl, .while2 _ hk2 rfl,hbl⟩;unfold rholds;rw[hk2];simp
    |while2 hk2 hw2=>rw[hxr] at hw2;cases hw2
    |block _ hk2 hw2=>rw[hxr] at hw2;cases hw2
   ·left;refine⟨by rw[if_pos (.inl (by omega))],?_⟩
    generalize hkk:min st.length (n.depth-1).toNat=k;split
    ·rfl
    ·rename_i hnl;rw[any_lacks hc] at hnl;split
     ·rfl
     ·rename_i hdk;have hdk:n.depth=k+1:=by omega
      have hwk:w<k:=by
       rcases Nat.lt_or_ge w k with h'|h'
       ·exact h'
       ·exact absurd ⟨w,g,h',hcg,hgw'⟩ hnl
      cases k with
      |zero=>omega
      |succ i=>
       have hi:i<c.length:=by omega
       have hci:c[i]? =some c[i]:=List.getElem?_eq_getElem hi;have hsi:st[i]? =some st[i]:=List.getElem?_eq_getElem (by omega)
       generalize c[i]=g2 at hci;generalize st[i]=r2 at hsi;have hG2:=hc.good i g2 r2 hci hsi;have hb2:=hbeh i g2 (by omega) hci
       simp only[hsi];rw[vY hG2.st hG2.kd hb2.1];have:=hb2.2
       unfold ze at this;simp at this;have e9:g2.kind≠9:=by omega
       have e7:¬(g2.kind=7/\g2.blocks=1):=by omega
       simp[e9,e7]
  |none=>
   have hnw:∀(j:Nat) (x:Hold),c[j]? =some x->x.wants=[]:=fun j x hx=>by
    have hjl:=(List.getElem?_eq_some_iff.1 hx).1;have:=xG hwi j x (by rw[List.getElem?_append_left hjl];exact hx)
    cases hxw:x.wants with
    |nil=>rfl
    |cons _ _=>rw[hxw] at this;cases this
   have hnl:∀k,((st.drop k).any lacks=true)=False:=fun k=>by
    apply eq_false;rw[any_lacks hc];rintro⟨j,y,h1,h2,h3⟩
    exact h3 (hnw j y h2)
   simp only[hnl,if_false];unfold takeF;simp only[hwi];generalize hkk:min st.length (n.depth-1).toNat=k;have top:∀i:Nat,k=i+1->n.depth=i+2->∃g r,c[i]? =some g/\st[i]? =some r/\Good1 i g r/\rholds r n.kind=((decide (g.kind=9)&&zx n.kind) || (decide (g.kind=7/\g.blocks=1)&&decide (n.kind=9))):=by
    intro i hi hdi;have hic:i<c.length:=by omega
    have hci:c[i]? =some c[i]:=List.getElem?_eq_getElem hic;have hsi:st[i]? =some st[i]:=List.getElem?_eq_getElem (by omega)
    have hG2:=hc.good i _ _ hci hsi;exact⟨_,_,hci,hsi,hG2,vY hG2.st hG2.kd (hnw i _ hci) n.kind⟩
   have put:∀(i:Nat) (g':Hold) (r':Opn) (o1:List Hold),n.depth=i+2->i<c.length->(o1=c++lf/\c[i]? =some g'\/o1=(c++lf).set i g'/\(∃g,c[i]? =some g/\g'.kind=g.kind))->Good1 i g' r'->g'.wants=[]->n.kind≠0->n.kind≠1->
    ∃o' h' st' b',some (popF n.depth o1++[⟨n.kind,n.depth,zC n.kind,0⟩],if n.kind=0\/n.kind=1 then heads else false)=some (o',h')/\some (st.take i++[r'],begun)=some (st',b')/\(o'.length:Int)=n.depth/\ShI o' h' (yT st' n) b':=by
    intro i g' r' o1 hdi hic ho1 hG' hw' h0 h1;have hb1:begun=true:=hbg (by rintro rfl;simp at hlen;omega)
    refine⟨_,_,_,_,rfl,rfl,?_⟩;have hdo:∀(j:Nat) (y:Hold),o1[j]? =some y->y.depth=j+1:=by
     rcases ho1 with⟨rfl,_⟩|⟨rfl,_⟩
     ·exact hdep
     ·intro j y hy;rw[List.getElem?_set] at hy
      split at hy
      ·rename_i e
       split at hy
       ·cases hy;subst e;exact hG'.hd
       ·cases hy
      ·exact hdep j y hy
    have hl1:o1.length=(c++lf).length:=by rcases ho1 with⟨rfl,_⟩|⟨rfl,_⟩<;>simp
    have e1:popF n.depth o1=c.take i++[g']:=by
     rw[hcut _ hdo];have e2:min o1.length (n.depth-1).toNat=i+1:=by rw[hl1];simp;omega
     rw[e2];rcases ho1 with⟨rfl,hcg⟩|⟨rfl,_⟩
     ·rw[List.take_append_of_le_length (by omega),take_last hcg]
     ·have e3:((c++lf).set i g')[i]? =some g':=by rw[List.getElem?_set_self (by simp;omega)]
      rw[take_last e3,List.take_set_of_le (by omega),List.take_append_of_le_length (by omega)]
    rw[e1,if_neg (by omega)]
    have hcw:(c.take i).length=i:=by simp;omega
    have hC:Cr (c.take i++[g']) (st.take i++[r']):=by
     refine(hc.take i).push g' r' (by rw[hcw];exact hG') fun j b hb hbw=>?_
     have hj:j<i:=by have:=(List.getElem?_eq_some_iff.1 hb).1;omega
     rw[List.getElem?_take,if_pos hj] at hb;exact absurd (hnw j b hb) hbw
    refine⟨by simp;omega,ShI.behind hC n (by simp;omega) ?_ (by rw[hb1];rfl) fun _=>hb1⟩
    intro hk2 j b hb hbw;exfalso;by_cases hj:j<i
    ·rw[List.getElem?_append_left (by omega),List.getElem?_take,if_pos hj] at hb
     exact hbw (hnw j b hb)
    ·have hl:=(List.getElem?_eq_some_iff.1 hb).1;simp at hl;have:j=i:=by omega
     subst this;rw[List.getElem?_append_right (by omega),hcw] at hb
     simp at hb;subst hb;exact hbw hw'
   have first:∀(b' h':Bool),n.depth=1->h'=!b'->(cont n.kind=true->b'=true)->∃o' h2 st' b2,some (popF n.depth (c++lf)++[⟨n.kind,n.depth,zC n.kind,0⟩],h')=some (o',h2)/\some (([]:List Opn),b')=some (st',b2)/\(o'.length:Int)=n.depth/\ShI o' h2 (yT st' n) b2:=by
    intro b' h' hd1 hh' hb';have e1:popF n.depth (c++lf)=[]:=by
     rw[hcut _ hdep,show min (c++lf).length (n.depth-1).toNat=0 from by omega];rfl
    refine⟨_,_,_,_,rfl,rfl,?_⟩;rw[e1];refine⟨by simp;omega,ShI.behind (c:=[]) ⟨rfl,fun j h r hh=>by simp at hh,fun i j h g _ hh=>by simp at hh⟩ n (by simp;omega) (fun _ i b hb=>by simp at hb) hh' fun hx=>?_⟩
    rcases hx with hx|hx
    ·exact absurd rfl hx
    ·exact hb' hx
   have held:∀u:Nat,heldIx (c++lf) (IntKind.wrap .i64 (n.depth-1))=some u->n.depth=u+2/\u<(c++lf).length:=by
    intro u hu;obtain⟨⟨y,h1,h2⟩,_⟩:=yx hu
    have hy:=hdep u y h1;have hul:=(List.getElem?_eq_some_iff.1 h1).1;have h2:y.depth=IntKind.wrap .i64 (n.depth-1):=by simpa using h2
    rw[hy] at h2;refine⟨?_,hul⟩;simp only[IntKind.wrap,IntKind.signed,IntKind.bits] at h2;simp at h2
    split at h2<;>omega
   have notheld:heldIx (c++lf) (IntKind.wrap .i64 (n.depth-1))=none->2<=n.depth->((c++lf).length:Int)+1<n.depth:=by
    intro hu hd2;rcases Int.lt_or_le ((c++lf).length+1:Int) n.depth with h'|h'
    ·exact h'
    ·exfalso;have hlt:(n.depth-2).toNat<(c++lf).length:=by omega
     have:=xG hu _ _ (List.getElem?_eq_getElem hlt)
     have hy:=hdep _ _ (List.getElem?_eq_getElem hlt);rw[hy] at this;have hw2:IntKind.wrap .i64 (n.depth-1)=n.depth-1:=by
      simp only[IntKind.wrap,IntKind.signed,IntKind.bits];simp
      split<;>omega
     rw[hw2] at this;simp at this;omega
   by_cases h01:n.kind=0\/n.kind=1
   ·simp only[h01,if_true,true_and,not_true,false_and,or_false];by_cases hd1:n.depth=1
    ·have hk0:k=0:=by omega
     subst hk0;rw[if_neg (show ¬(n.depth≠((0:Nat):Int)+1) by omega)]
     dsimp only;rw[hhd];cases begun with
     |true=>left;constructor<;>simp
     |false=>
      right;have hcn:cont n.kind=false:=by rcases h01 with e|e<;>rw[e]<;>rfl
      have:=first false true hd1 rfl (by rw[hcn];intro h;cases h)
      rw[if_neg (show ¬(n.depth≠1\/(!false)=false) by simp[hd1])]
      simpa using this
    ·left;refine⟨by simp[hd1],?_⟩
     split
     ·rfl
     ·rename_i hdk;cases k with
      |zero=>exact absurd (by omega) hd1
      |succ i=>
       obtain⟨g,r,h1,h2,h3,h4⟩:=top i rfl (by omega)
       dsimp only;rw[h2];dsimp only;have e1:zx n.kind=false:=by rcases h01 with e|e<;>rw[e]<;>rfl
       have e2:¬n.kind=9:=by omega
       rw[h4];simp[e1,e2]
   ·simp only[h01,if_false,false_and,not_false_eq_true,true_and,false_or];by_cases hs:zx n.kind=true
    ·have hs2:2<=n.kind/\n.kind<=8:=by unfold zx at hs;simpa using hs
     simp only[hs,if_true,Bool.true_eq_false,if_false];by_cases hd1:n.depth=1
     ·have hk0:k=0:=by omega
      subst hk0;rw[if_neg (show ¬(n.depth≠((0:Nat):Int)+1) by omega),if_pos hd1]
      right;have:=first true false hd1 rfl fun _=>rfl
      simpa using this
     ·simp only[hd1,if_false];cases hh:heldIx (c++lf) (IntKind.wrap .i64 (n.depth-1)) with
      |none=>
       left;refine⟨rfl,?_⟩;have:=notheld hh
       rw[if_pos (by omega)]
      |some u=>
       obtain⟨hdu,hul⟩:=held u hh
       have huo:(c++lf)[u]? =some (c++lf)[u]:=List.getElem?_eq_getElem hul;by_cases huc:u<c.length
       ·have hku:k=u+1:=by omega
        obtain⟨g,r,h1,h2,h3,h4⟩:=top u hku (by omega)
        have h1':(c++lf)[u]? =some g:=by rw[List.getElem?_append_left huc];exact h1
        rw[hku,if_neg (by omega)]
        dsimp only;rw[h1',h2];dsimp only;rw[h4];by_cases h9:g.kind=9
        ·right;have hG':Good1 u g {r with has:=r.has+1}:=by
          refine⟨h3.hd,h3.rd,h3.kd,?_,h3.bl⟩;have hst:=h3.st;show St g (r.has+1);generalize r.has=x at hst⊢;cases hst with
          |block _ a b c=>exact .block _ _ a b (by omega)
          |one0 a _=>omega
          |one1 a _=>omega
          |two0 a _=>omega
          |two1 a _=>omega
          |two2 a _=>omega
          |if0 a _ _=>omega
          |if1 a _ _=>omega
          |if2 a _ _=>omega
          |if3 a _ _=>omega
          |while0 a _=>omega
          |while1 a _=>omega
          |while2 a _=>omega
         have:=put u g _ _ hdu huc (.inl ⟨rfl,h1⟩) hG' (hnw u g h1) (by omega) (by omega)
         simpa [h9,hs,h01] using this
        ·left;have e9:¬n.kind=9:=by omega
         simp[h9,e9]
       ·left;have hx:=hlw u _ (by omega) huo
        have h9:=(kG hx.2).2.2.2;dsimp only;rw[huo];dsimp only;refine⟨by rw[if_neg h9],?_⟩
        rw[if_pos (by omega)]
    ·have hs':zx n.kind=false:=by simpa using hs
     simp only[hs',Bool.false_eq_true,if_false,if_true];by_cases h9:n.kind=9
     ·simp only[h9,if_true];cases hh:heldIx (c++lf) (IntKind.wrap .i64 (n.depth-1)) with
      |none=>
       left;refine⟨rfl,?_⟩;have:=notheld hh
       split
       ·rfl
       ·rename_i hdk;cases k with
        |zero=>rfl
        |succ i=>exact absurd (this (by omega)) (by omega)
      |some u=>
       obtain⟨hdu,hul⟩:=held u hh
       have huo:(c++lf)[u]? =some (c++lf)[u]:=List.getElem?_eq_getElem hul;by_cases huc:u<c.length
       ·have hku:k=u+1:=by omega
        obtain⟨g,r,h1,h2,h3,h4⟩:=top u hku (by omega)
        have h1':(c++lf)[u]? =some g:=by rw[List.getElem?_append_left huc];exact h1
        rw[hku,if_neg (by omega)]
        dsimp only;rw[h1',h2];dsimp only;rw[h9] at h4;rw[h4];by_cases h7:g.kind=7/\g.blocks=1
        ·right;have hG':Good1 u {g with blocks:=g.blocks+1} {r with has:=r.has+1}:=by
          refine⟨h3.hd,h3.rd,h3.kd,?_,by have:=hnw u g h1;show 0<=g.blocks+1/\g.blocks+1+(g.wants.count 1:Nat)<=2;rw[this,h7.2];decide⟩
          have hst:=h3.st;show St _ (r.has+1);generalize r.has=x at hst⊢;cases hst with
          |if2 a b c=>exact .if3 _ a b (by show g.blocks+1=2;omega)
          |if3 a b c=>omega
          |if0 a b c=>omega
          |if1 a b c=>omega
          |block _ a _ _=>omega
          |one0 a _=>omega
          |one1 a _=>omega
          |two0 a _=>omega
          |two1 a _=>omega
          |two2 a _=>omega
          |while0 a _=>omega
          |while1 a _=>omega
          |while2 a _=>omega
         have:=put u {g with blocks:=g.blocks+1} _ _ hdu huc (.inr ⟨rfl,g,h1,rfl⟩) hG' (hnw u g h1) (by omega) (by omega)
         have e:zx 9=false:=rfl;simpa [h7,h9,e] using this
        ·left;have e:zx 9=false:=rfl;simp[h7,e]
       ·left;have hx:=hlw u _ (by omega) huo
        have h7:=(kG hx.2).2.2.1;dsimp only;rw[huo];dsimp only;refine⟨by rw[if_neg (by omega)],?_⟩
        rw[if_pos (by omega)]
     ·simp only[h9,if_false];left;refine⟨rfl,?_⟩;split
      ·rfl
      ·rename_i hdk;cases k with
       |zero=>rfl
       |succ i=>
        obtain⟨g,r,h1,h2,h3,h4⟩:=top i rfl (by omega)
        dsimp only;rw[h2];dsimp only;rw[h4];simp[hs',h9]
end
theorem zbb:∀(l:List Nd) {o:List Hold} {heads:Bool} {st:List Opn} {begun:Bool} (i:Nat),ShI o heads st begun->o.length<=24->(∀n∈l,-9223372036854775808<=n.depth/\n.depth<=9223372036854775807)->shapeG o heads i l=rshapeG st begun i l:=by
 intro l;induction l with
 |nil=>
  intro o heads st begun i h _ _;unfold shapeG rshapeG;obtain⟨⟨c,lf,rfl,hc,hlf⟩,_,_⟩:=id h
  have e:(xf (c++lf)).isSome=st.any lacks:=by
   have hal:=any_lacks hc 0;rw[List.drop_zero] at hal;cases hw:xf (c++lf) with
   |some w=>
    obtain⟨⟨g,h1,h2⟩,_⟩:=yx hw
    have hg:g.wants≠[]:=by intro e;rw[e] at h2;cases h2
    symm
    rw[Option.isSome_some,hal];by_cases hwc:w<c.length
    ·rw[List.getElem?_append_left hwc] at h1;exact⟨w,g,Nat.zero_le _,h1,hg⟩
    ·exfalso;rw[List.getElem?_append_right (by omega)] at h1
     rcases hlf with rfl|⟨x,rfl,k1,k2,_⟩
     ·simp at h1
     ·cases hk:w-c.length with
      |zero=>rw[hk] at h1;simp at h1;subst h1;exact hg k1
      |succ m=>rw[hk] at h1;simp at h1
   |none=>
    symm
    rw[Option.isSome_none,Bool.eq_false_iff];intro ha;obtain⟨j,g,_,h1,h2⟩:=hal.1 ha
    have hjl:=(List.getElem?_eq_some_iff.1 h1).1;have:=xG hw j g (by rw[List.getElem?_append_left hjl];exact h1)
    cases hgw:g.wants with
    |nil=>exact h2 hgw
    |cons _ _=>rw[hgw] at this;cases this
  rw[e]
 |cons n l ih=>
  intro o heads st begun i h ho hl;unfold shapeG rshapeG;have hn:=hl n (List.mem_cons_self ..);rcases stand_same h ho n hn.1 hn.2 with⟨h1,h2⟩|⟨o',h',st',b',h1,h2,h3,h4⟩
  ·rw[h1,h2]
  ·rw[h1,h2];dsimp only;split
   ·rfl
   ·exact ih (i+1) h4 (by omega) fun x hx=>hl x (List.mem_cons_of_mem _ hx)
theorem zcu(l:List Nd)(hl:∀n∈l,-9223372036854775808<=n.depth/\n.depth<=9223372036854775807):shapeF l=rshapeF l:=by
 unfold shapeF rshapeF;split
 ·rfl
 ·exact zbb l 0 ShI.start (by decide) hl
theorem isExpr_any(x:Int)(w:World):Calls Tryz.prog 96 #[.int .i64 x] w fun e w'=>e= .returned (.bool (ze x))/\w'=w:=by
 go_enter Tryz.func96,Tryz.ntmps96;go_wp2;all_goals
  go_ret;refine⟨?_,rfl⟩;show Ending.returned (.bool _)=Ending.returned (.bool _);refine congrArg _ (congrArg _ ?_);rw[Bool.eq_iff_iff];simp[ze];try omega
theorem isStmt_any(x:Int)(w:World):Calls Tryz.prog 98 #[.int .i64 x] w fun e w'=>e= .returned (.bool (zx x))/\w'=w:=by
 go_enter Tryz.func98,Tryz.ntmps98;go_wp2;all_goals
  go_ret;refine⟨?_,rfl⟩;show Ending.returned (.bool _)=Ending.returned (.bool _);refine congrArg _ (congrArg _ ?_);rw[Bool.eq_iff_iff];simp[zx];try omega
def wantsV(n:Nat)(l:List Int):Value:=if l=[] then .slice none 0 0 else .slice (some ⟨n,0,none⟩) l.length l.length
def wantsW(w:World)(l:List Int):World:=if l=[] then w else w.alloc (.cells (l.map (Value.int .i64)).toArray 3)
theorem zcd(x:Int)(w:World):Calls Tryz.prog 99 #[.int .i64 x] w fun e w'=>e= .returned (wantsV w.heap.size (zC x))/\w'=wantsW w (zC x):=by
 go_enter Tryz.func99,Tryz.ntmps99;go_wp2;all_goals
  go_ret;simp_all [wantsV,wantsW,zC]
theorem ql{s:ByteArray}{k:Nat}(hk:k<s.size)(h:okAt s k=false):nameableB s=false:=by
 have:(List.range s.size).all (okAt s)=false:=by
  rw[Bool.eq_false_iff];intro ha;rw[List.all_eq_true] at ha;rw[ha k (List.mem_range.2 hk)] at h;cases h
 simp[nameableB,this]
theorem nameable_all{s:ByteArray}(h:∀j,j<s.size->okAt s j=true):nameableB s=(decide (0<s.size)&&decide (s.size<=16)&&!zi s):=by
 have:(List.range s.size).all (okAt s)=true:=by
  rw[List.all_eq_true];exact fun j hj=>h j (List.mem_range.1 hj)
 simp[nameableB,this]
theorem vU(s:ByteArray):s.toList.length=s.size:=by
 rw[ByteArray.toList_eq];simp
theorem xF{s:ByteArray}{k:Nat}(h:k<s.size):okAt s k=(isLetter (s[k]).toNat || (decide (k≠0)&&isDigit (s[k]).toNat)):=by
 unfold okAt;rw[dif_pos h]
theorem zar(s:ByteArray)(hs:s.size<=140737488355328)(w:World):Calls Tryz.prog 133 #[.string s] w fun e w'=>e= .returned (.bool (nameableB s))/\w'=w:=by
 go_enter Tryz.func133,Tryz.ntmps133;go_wp2;go_loop [3] (fun c=>∃k:Nat,k<=s.size/\c= .int .i64 k/\∀j:Nat,j<k->okAt s j=true) (fun c=>s.size-(intOf c).toNat)
 case atStart=>exact⟨0,Nat.zero_le _,rfl,fun j h=>absurd h (Nat.not_lt_zero _)⟩
 case round=>
  obtain⟨k,h2,rfl,h3⟩:=hrel
  by_cases hlt:k<s.size
  ·by_cases h95:(((s[k]).toNat:Int)==95)=true
   ·have e95:((s[k]).toNat:Int)=95:=eq_of_beq h95;go_wp2_with (go_at_call 156;refine(xQ _ _).mono ?_;rintro e w' ⟨rfl,rfl⟩);all_goals first
     |(refine⟨⟨k+1,by omega,by first|go_num|(simp;done)|(simp;omega),fun j hj=>?_⟩,by simp[intOf];omega⟩
       by_cases e:j=k
       ·subst e;rw[xF hlt];simp only[isLetter,isDigit,Bool.or_eq_true,Bool.and_eq_true,decide_eq_true_eq,ne_eq];omega
       ·exact h3 j (by omega))
     |(go_ret
       have hno:okAt s k=false:=by
        (rw[xF hlt]
         refine Bool.eq_false_iff.2 fun hh=>?_;simp only[isLetter,isDigit,Bool.or_eq_true,Bool.and_eq_true,decide_eq_true_eq,ne_eq,not_true_eq_false,false_and,or_false,not_false_eq_true,true_and] at hh;omega)
       (refine⟨?_,rfl⟩);(have e:=ql hlt hno);(simp[e]))
     |(exfalso;simp only[Bool.not_eq_false',Bool.not_eq_true',decide_eq_true_eq,decide_eq_false_iff_not,h95] at*;omega)
   ·have h95:(((s[k]).toNat:Int)==95)=false:=by simpa using h95
    have e95:((s[k]).toNat:Int)≠95:=by simpa using h95
    by_cases hk0:k=0
    ·subst hk0;go_wp2_with (go_at_call 156;refine(xQ _ _).mono ?_;rintro e w' ⟨rfl,rfl⟩);all_goals first
      |(refine⟨⟨0+1,by omega,by first|go_num|(simp;done)|(simp;omega),fun j hj=>?_⟩,by simp[intOf];omega⟩
        by_cases e:j=0
        ·subst e;rw[xF hlt];simp only[isLetter,isDigit,Bool.or_eq_true,Bool.and_eq_true,decide_eq_true_eq,ne_eq];omega
        ·exact h3 j (by omega))
      |(go_ret
        have hno:okAt s 0=false:=by
         (rw[xF hlt]
          refine Bool.eq_false_iff.2 fun hh=>?_;simp only[isLetter,isDigit,Bool.or_eq_true,Bool.and_eq_true,decide_eq_true_eq,ne_eq,not_true_eq_false,false_and,or_false,not_false_eq_true,true_and] at hh;omega)
        (refine⟨?_,rfl⟩);(have e:=ql hlt hno);(simp[e]))
      |(exfalso;simp only[Bool.not_eq_false',Bool.not_eq_true',decide_eq_true_eq,decide_eq_false_iff_not,h95] at*;omega)
    ·have hb:((k:Int)==0)=false:=by simp[hk0]
     go_wp2_with (go_at_call 156;refine(xQ _ _).mono ?_;rintro e w' ⟨rfl,rfl⟩);all_goals first
      |(refine⟨⟨k+1,by omega,by first|go_num|(simp;done)|(simp;omega),fun j hj=>?_⟩,by simp[intOf];omega⟩
        by_cases e:j=k
        ·subst e;rw[xF hlt];simp only[isLetter,isDigit,Bool.or_eq_true,Bool.and_eq_true,decide_eq_true_eq,ne_eq];omega
        ·exact h3 j (by omega))
      |(go_ret
        have hno:okAt s k=false:=by
         (rw[xF hlt]
          refine Bool.eq_false_iff.2 fun hh=>?_;simp only[isLetter,isDigit,Bool.or_eq_true,Bool.and_eq_true,decide_eq_true_eq,ne_eq,not_true_eq_false,false_and,or_false,not_false_eq_true,true_and] at hh;omega)
        (refine⟨?_,rfl⟩);(have e:=ql hlt hno);(simp[e]))
      |(exfalso;simp only[Bool.not_eq_false',Bool.not_eq_true',decide_eq_true_eq,decide_eq_false_iff_not,h95] at*;omega)
  ·have e:=nameable_all (s:=s) (fun j hj=>h3 j (by omega))
   clear h3;go_wp2_with (go_at_call 156;refine(xQ _ _).mono ?_;rintro e w' ⟨rfl,rfl⟩)
   ·go_ret;have hl:s.toList.length=s.size:=vU s;have h0:s.toList=[]:=by assumption
    rw[h0] at hl;refine⟨?_,rfl⟩;have e0:s.size=0:=hl.symm;simp[e,e0]
   ·go_ret;have hl:s.toList.length=s.size:=vU s;have hp:0<s.size:=by
     rcases Nat.eq_zero_or_pos s.size with h|h
     ·rw[h] at hl;exact absurd (List.eq_nil_of_length_eq_zero hl) (by assumption)
     ·exact h
    have h16:s.size<=16:=by omega
    refine⟨?_,rfl⟩;have hne:¬s.toList=[]:=by assumption
    simp[e,hp,h16,hne]
   ·go_ret;have h16:¬s.size<=16:=by omega
    refine⟨?_,rfl⟩;simp[e,h16]
theorem Kin.alloc{w w':World}(h:Kin w w')(o:Obj):Kin w (w'.alloc o):=by
 have g:=World.grownBy_alloc w' o none;have s:=g.size;have s2:=h.size;exact⟨h.os,h.out,by omega,fun k hk=>(g.block k (by omega) (by simp)).trans (h.block k hk)⟩
theorem Kin.drewN{w w':World}(h:Kin w w')(n:Nat):Kin w (w'.drewN n):=⟨h.os,h.out,h.size,h.block⟩
theorem beq_dec(a b:Int):(a==b)=decide (a=b):=by
 rw[Bool.eq_iff_iff];simp
theorem zcT(n:Nd)(hs:n.name.size<=140737488355328)(w:World):Calls Tryz.prog 95 #[.agg n.cells.toArray] w fun e w'=>e= .returned (.bool (fieldsB n))/\Kin w w':=by
 obtain⟨depth,kind,name,num,op,at_⟩:=n
 have hn:=zar name hs;simp only[Nd.cells];by_cases h1:kind=1
 ·subst h1;go_enter Tryz.func95,Tryz.ntmps95;go_wp2_with fail;go_quiet (fail)
  go_wp2_with fail;have kW:Kin w ((w.alloc (Obj.cells #[Value.int IntKind.i64 depth,Value.int IntKind.i64 1,Value.string name,Value.int IntKind.i64 num,Value.int IntKind.i64 op,Value.int IntKind.i64 at_] 50)).drewN nq):=((Kin.refl w).alloc _).drewN _;have c2:((w.alloc (Obj.cells #[Value.int IntKind.i64 depth,Value.int IntKind.i64 1,Value.string name,Value.int IntKind.i64 num,Value.int IntKind.i64 op,Value.int IntKind.i64 at_] 50)).drewN nq).cell? ⟨w.heap.size,2,none⟩=some (.string name):=by simp[go_sem]
  have c3:((w.alloc (Obj.cells #[Value.int IntKind.i64 depth,Value.int IntKind.i64 1,Value.string name,Value.int IntKind.i64 num,Value.int IntKind.i64 op,Value.int IntKind.i64 at_] 50)).drewN nq).cell? ⟨w.heap.size,3,none⟩=some (.int .i64 num):=by simp[go_sem]
  generalize ((w.alloc (Obj.cells #[Value.int IntKind.i64 depth,Value.int IntKind.i64 1,Value.string name,Value.int IntKind.i64 num,Value.int IntKind.i64 op,Value.int IntKind.i64 at_] 50)).drewN nq)=W at kW c2 c3⊢;go_quiet ((go_at_call 133;exact Calls.quiet_of_same (hn _)))
  go_wp2;all_goals
   go_ret;refine⟨?_,kW.drewN _⟩;simp_all [fieldsB]
   try (first|exact beq_dec _ _|omega|(simp only[beq_dec];rw[Bool.eq_iff_iff];simp;omega))
 ·have hk1:(kind==1)=false:=by simp[h1]
  go_enter Tryz.func95,Tryz.ntmps95;go_wp2_with fail;go_quiet (fail)
  go_wp2_with (go_at_call 133;refine(hn _).mono ?_;rintro e w' ⟨rfl,rfl⟩);all_goals
   go_ret;refine⟨?_,((Kin.refl w).alloc _).drewN _⟩;simp_all [fieldsB]
   try (first|exact beq_dec _ _|omega|(simp only[beq_dec];rw[Bool.eq_iff_iff];simp;omega))
theorem rwants_any(x:Int)(w:World):Calls Tryz.prog 53 #[.int .i64 x] w fun e w'=>e= .returned (.int .i64 (rwants x))/\w'=w:=by
 go_enter Tryz.func53,Tryz.ntmps53;go_wp2;all_goals
  go_ret;simp_all [rwants]
theorem j8(x:Int)(w:World):Calls Tryz.prog 101 #[.int .i64 x] w fun e w'=>e= .returned (.bool (ze x))/\w'=w:=by
 go_enter Tryz.func101,Tryz.ntmps101;go_wp2;all_goals
  go_ret;refine⟨?_,rfl⟩;show Ending.returned (.bool _)=Ending.returned (.bool _);refine congrArg _ (congrArg _ ?_);rw[Bool.eq_iff_iff];simp[ze];try omega
theorem vW(x:Int)(w:World):Calls Tryz.prog 55 #[.int .i64 x] w fun e w'=>e= .returned (.bool (zx x))/\w'=w:=by
 go_enter Tryz.func55,Tryz.ntmps55;go_wp2;all_goals
  go_ret;refine⟨?_,rfl⟩;show Ending.returned (.bool _)=Ending.returned (.bool _);refine congrArg _ (congrArg _ ?_);rw[Bool.eq_iff_iff];simp[zx];try omega
def kws:List ByteArray:=[{data:= #[118,97,114]},{data:= #[97,114,114,97,121]},{data:= #[105,110,112,117,116]},{data:= #[97,115,115,101,114,116]},{data:= #[115,107,105,112]},{data:= #[105,102]},{data:= #[101,108,115,101]},{data:= #[119,104,105,108,101]},{data:= #[116,114,117,101]},{data:= #[102,97,108,115,101]}]
def jC:Array Value:= #[.string {data:= #[118,97,114]}, .string {data:= #[97,114,114,97,121]}, .string {data:= #[105,110,112,117,116]}, .string {data:= #[97,115,115,101,114,116]}, .string {data:= #[115,107,105,112]}, .string {data:= #[105,102]}, .string {data:= #[101,108,115,101]}, .string {data:= #[119,104,105,108,101]}, .string {data:= #[116,114,117,101]}, .string {data:= #[102,97,108,115,101]}]
def kwAt(k:Nat):ByteArray:=kws[k]?.getD {data:= #[]}
theorem zf0:∀k,k<10->jC[k]? =some (.string (kwAt k))
 |0,_=>rfl
 |1,_=>rfl
 |2,_=>rfl
 |3,_=>rfl
 |4,_=>rfl
 |5,_=>rfl
 |6,_=>rfl
 |7,_=>rfl
 |8,_=>rfl
 |9,_=>rfl
 |n+10,h=>absurd h (by omega)
theorem vg(s:ByteArray):zi s=(List.range 10).any fun k=>((kwAt k).toList==s.toList):=by
 have e0:(kwAt 0).toList=[118,97,114]:=by kernel_rfl
 have e1:(kwAt 1).toList=[97,114,114,97,121]:=by kernel_rfl
 have e2:(kwAt 2).toList=[105,110,112,117,116]:=by kernel_rfl
 have e3:(kwAt 3).toList=[97,115,115,101,114,116]:=by kernel_rfl
 have e4:(kwAt 4).toList=[115,107,105,112]:=by kernel_rfl
 have e5:(kwAt 5).toList=[105,102]:=by kernel_rfl
 have e6:(kwAt 6).toList=[101,108,115,101]:=by kernel_rfl
 have e7:(kwAt 7).toList=[119,104,105,108,101]:=by kernel_rfl
 have e8:(kwAt 8).toList=[116,114,117,101]:=by kernel_rfl
 have e9:(kwAt 9).toList=[102,97,108,115,101]:=by kernel_rfl
 have hr:List.range 10=[0,1,2,3,4,5,6,7,8,9]:=by decide
 rw[hr,Bool.eq_iff_iff];simp only[zi,List.any_cons,List.any_nil,e0,e1,e2,e3,e4,e5,e6,e7,e8,e9,Bool.or_eq_true,beq_iff_eq,Bool.or_false];simp only[eq_comm]
theorem zhG(w:World)(k:Nat)(hk:k<10):(w.alloc (.cells jC 9)).cell? ⟨w.heap.size,k,none⟩=some (.string (kwAt k)):=by
 rw[World.cell?_alloc_at _ _ _ _ rfl];exact zf0 k hk
theorem zbp(s:ByteArray)(w:World):Calls Tryz.prog 134 #[.string s] w fun e w'=>e= .returned (.bool (zi s))/\Kin w w':=by
 have K1:=Lib.hid ((Kin.refl w).alloc (.cells jC 9));have HC:=Lib.hid (zhG w);unfold jC at K1 HC;generalize hR:zi s=R;have HR:=Lib.hid hR;clear hR;go_enter Tryz.func134,Tryz.ntmps134;go_wp2;go_loopg [4] 10 (fun g x wq=>∃k:Nat,x= .int .i64 k/\k<=10/\g=10-k/\(∀j,j<k->((kwAt j).toList==s.toList)=false)/\wq=w.alloc (.cells jC 9))
 case atStart=>exact⟨0,rfl,by omega,rfl,fun j hj=>by omega,rfl⟩
 case round=>
  obtain⟨k,rfl,hk,hg,hn,rfl⟩:=hrel
  have HG:=Lib.hid hg;have HN:=Lib.hid hn;clear hg hn;unfold jC;by_cases hlt:k<10
  ·have hc:=HC.out k hlt;generalize hkw:kwAt k=t at hc;have HKW:=Lib.hid hkw;clear hkw;by_cases he:(t.toList==s.toList)=true
   ·have hRt:R=true:=by
     rw[<-HR.out,vg,List.any_eq_true];exact⟨k,List.mem_range.2 hlt,by rw[HKW.out];exact he⟩
    subst hRt;go_wp2_with fail;go_ret;exact⟨rfl,K1.out⟩
   ·have he:(t.toList==s.toList)=false:=by simpa using he
    go_wp2_with fail;go_roundg (10-(k+1))
    case measure=>have:=HG.out;omega
    case rel=>
     refine⟨k+1,by simp,by omega,rfl,fun j hj=>?_,rfl⟩
     by_cases e:j=k
     ·subst e;rw[HKW.out];exact he
     ·exact HN.out j (by omega)
  ·have hk10:k=10:=by omega
   subst hk10;have hRf:R=false:=by
    rw[<-HR.out,vg,List.any_eq_false];intro j hj;rw[HN.out j (List.mem_range.1 hj)];simp
   subst hRf;go_wp2_with fail;go_ret;exact⟨rfl,K1.out⟩
theorem rletter_any(x:Int)(w:World):Calls Tryz.prog 124 #[.int .u8 x] w fun e w'=>e= .returned (.bool (isLetter x))/\w'=w:=by
 go_enter Tryz.func124,Tryz.ntmps124;go_wp2;all_goals
  go_ret;refine⟨?_,rfl⟩;show Ending.returned (.bool _)=Ending.returned (.bool _);refine congrArg _ (congrArg _ ?_);rw[Bool.eq_iff_iff];simp[isLetter];try omega
theorem rdigit_any(x:Int)(w:World):Calls Tryz.prog 125 #[.int .u8 x] w fun e w'=>e= .returned (.bool (isDigit x))/\w'=w:=by
 go_enter Tryz.func125,Tryz.ntmps125;go_wp2;all_goals
  go_ret;refine⟨?_,rfl⟩;show Ending.returned (.bool _)=Ending.returned (.bool _);refine congrArg _ (congrArg _ ?_);rw[Bool.eq_iff_iff];simp[isDigit];try omega
theorem zdM(s:ByteArray)(hs:s.size<=140737488355328)(w:World):Calls Tryz.prog 100 #[.string s] w fun e w'=>e= .returned (.bool (nameableB s))/\Kin w w':=by
 by_cases h0:s.size=0
 ·have hr:nameableB s=false:=by simp[nameableB,h0]
  rw[hr];clear hr;go_enter Tryz.func100,Tryz.ntmps100;go_wp2_with fail;go_ret;exact⟨rfl,Kin.refl _⟩
 ·have h0:0<s.size:=by omega
  by_cases h16:16<s.size
  ·have hr:nameableB s=false:=by
    have:¬s.size<=16:=by omega
    simp[nameableB,this]
   rw[hr];clear hr;go_enter Tryz.func100,Tryz.ntmps100;go_wp2_with fail;go_ret;exact⟨rfl,Kin.refl _⟩
  ·cases hl:isLetter (s[0]).toNat with
   |false=>
    have hr:nameableB s=false:=ql h0 (by rw[xF h0,hl];simp)
    rw[hr];clear hr;go_enter Tryz.func100,Tryz.ntmps100;go_wp2_with (go_at_call 124;with_reducible refine(rletter_any _ _).mono ?_;rintro e w' ⟨rfl,rfl⟩);go_ret;exact⟨rfl,Kin.refl _⟩
   |true=>
    have HK:=Lib.hid (zbp s w);cases hk:zi s with
    |true=>
     have hr:nameableB s=false:=by simp[nameableB,hk]
     rw[hr];clear hr;rw[hk] at HK;go_enter Tryz.func100,Tryz.ntmps100;go_wp2_with (first|(go_at_call 124;with_reducible refine(rletter_any _ _).mono ?_;rintro e w' ⟨rfl,rfl⟩)|(go_at_call 134;with_reducible refine HK.out.mono ?_;rintro e w' ⟨rfl,hk1⟩));go_ret;exact⟨rfl,hk1⟩
    |false=>
     rw[hk] at HK;have HKF:=Lib.hid hk;have HS:=Lib.hid hs;clear hk;generalize hR:nameableB s=R;have HR:=Lib.hid hR;clear hR;go_enter Tryz.func100,Tryz.ntmps100;go_wp2_with (first|(go_at_call 124;with_reducible refine(rletter_any _ _).mono ?_;rintro e w' ⟨rfl,rfl⟩)|(go_at_call 134;with_reducible refine HK.out.mono ?_;rintro e w1 ⟨rfl,hk1⟩));have HK1:=Lib.hid hk1;clear hk1;go_loopg [3] s.size (fun g x wq=>∃k:Nat,x= .int .i64 k/\k<=s.size/\g=s.size-k/\(∀j,j<k->okAt s j=true)/\wq=w1)
     case atStart=>exact⟨0,rfl,by omega,rfl,fun j hj=>by omega,rfl⟩
     case round=>
      obtain⟨k,rfl,hkk,hg,hn,rfl⟩:=hrel
      have HG:=Lib.hid hg;have HN:=Lib.hid hn;clear hg hn;by_cases hlt:k<s.size
      ·cases hlk:isLetter (s[k]).toNat with
       |true=>
        go_wp2_with (go_at_call 124;with_reducible refine(rletter_any _ _).mono ?_;rintro e w' ⟨rfl,rfl⟩);go_roundg (s.size-(k+1))
        case measure=>have:=HG.out;omega
        case rel=>
         refine⟨k+1,by simp,by omega,rfl,fun j hj=>?_,rfl⟩
         by_cases e:j=k
         ·subst e;rw[xF hlt,hlk];rfl
         ·exact HN.out j (by omega)
       |false=>
        cases hdk:isDigit (s[k]).toNat with
        |true=>
         have hk0:k≠0:=by
          rintro rfl;rw[hl] at hlk;cases hlk
         go_wp2_with (first|(go_at_call 124;with_reducible refine(rletter_any _ _).mono ?_;rintro e w' ⟨rfl,rfl⟩)|(go_at_call 125;with_reducible refine(rdigit_any _ _).mono ?_;rintro e w' ⟨rfl,rfl⟩));go_roundg (s.size-(k+1))
         case measure=>have:=HG.out;omega
         case rel=>
          refine⟨k+1,by simp,by omega,rfl,fun j hj=>?_,rfl⟩
          by_cases e:j=k
          ·subst e;rw[xF hlt,hdk];simp[hk0]
          ·exact HN.out j (by omega)
        |false=>
         have hRf:R=false:=by
          rw[<-HR.out];exact ql hlt (by rw[xF hlt,hlk,hdk];simp)
         subst hRf;go_wp2_with (first|(go_at_call 124;with_reducible refine(rletter_any _ _).mono ?_;rintro e w' ⟨rfl,rfl⟩)|(go_at_call 125;with_reducible refine(rdigit_any _ _).mono ?_;rintro e w' ⟨rfl,rfl⟩));go_ret;exact⟨rfl,HK1.out⟩
      ·have hRt:R=true:=by
        rw[<-HR.out,nameable_all (fun j hj=>HN.out j (by omega)),HKF.out]
        simp;omega
       subst hRt;go_wp2_with fail;go_ret;exact⟨rfl,HK1.out⟩
def zkm(s:ByteArray)(i k:Nat):Prop:=∃h:i<s.size,(isBlank (s[i]).toNat=true/\k=i+1)\/(isBlank (s[i]).toNat=false/\(s[i]).toNat=35/\Upto isLine s i k)\/(isBlank (s[i]).toNat=false/\(s[i]).toNat≠35/\k=i)
def zh1:List UInt8->Nat->Nat
 |[],a=>a
 |c::r,a=>zh1 r (a*10+(c.toNat-48))
def zkp:List UInt8:=[57,50,50,51,51,55,50,48,51,54,56,53,52,55,55,53,56,48,55]
def Dg(c:UInt8):Prop:=48<=c.toNat/\c.toNat<=57
def zjs:List ByteArray:=[⟨#[60,61]⟩,⟨#[62,61]⟩,⟨#[61,61]⟩,⟨#[33,61]⟩,⟨#[38,38]⟩,⟨#[124,124]⟩,⟨#[58,61]⟩]
def zjA:List ByteArray:=[⟨#[43]⟩,⟨#[45]⟩,⟨#[42]⟩,⟨#[47]⟩,⟨#[37]⟩,⟨#[60]⟩,⟨#[62]⟩,⟨#[33]⟩,⟨#[40]⟩,⟨#[41]⟩,⟨#[91]⟩,⟨#[93]⟩,⟨#[123]⟩,⟨#[125]⟩,⟨#[59]⟩]
def zkf:List ByteArray:=zjs++zjA
def zkj(s:ByteArray)(i:Nat)(t:ByteArray):Bool:=decide (i+t.size<=s.size)&&((s.extract i (i+t.size)).toList==t.toList)
def zkg(x:Item):Value:= .tuple #[.agg #[.int .i64 x.kind, .string x.text, .int .i64 x.num, .int .i64 x.pos], .int .i64 x.code]
theorem Kin.setCell{w0 w:World}(h:Kin w0 w){g o:Nat}(hg:w0.heap.size<=g)(u:Value):Kin w0 (w.setCell ⟨g,o,none⟩ u):=by
 refine⟨?_,?_,?_,fun k hk=>?_⟩
 ·rw[<-h.os];rfl
 ·rw[<-h.out];rfl
 ·have:=h.size;simpa using this
 ·rw[Below.heap_setCell _ _ _ _ (by simp;omega)];exact h.block k hk
def zke(s:ByteArray)(i:Nat):List Item:=cutF s (s.size+1) (skipTo s i)
theorem Kin.grownK{w W W':World}{row:Option Nat}(h:Kin w W)(g:W.grownBy W' row)(hr:∀k,row=some k->w.heap.size<=k):Kin w W':=
 ⟨g.os.trans h.os,g.output.trans h.out,Nat.le_trans h.size g.size,fun k hk=>(g.block k (Nat.lt_of_lt_of_le hk h.size) (fun e=>by have:=hr k e.symm;omega)).trans (h.block k hk)⟩
theorem jH{w w':World}{B n:Nat}{e:TypeId}{size:Nat}{v:Value}{xs:List Value}(h:w.ownsRow B e size v n xs)(K:Kin w w'):w'.ownsRow B e size v n xs:=by
 refine⟨h.1,h.2.imp id ?_⟩;rintro⟨g,cap,cur,h1,h2,h3,h4⟩
 exact⟨g,cap,cur,h1,h2,(K.block g (Array.getElem?_eq_some_iff.1 h3).1).trans h3,h4⟩
def RToks(s:ByteArray)(w:World)(e:Ending)(w':World):Prop:=
 Kin w w'/\if 8192<s.size then e= .returned (.tuple #[.slice none 0 0, .int .i64 21, .int .i64 8192])
  else if (badOf (pieces s)).1≠0 then e= .returned (.tuple #[.slice none 0 0, .int .i64 (badOf (pieces s)).1, .int .i64 (badOf (pieces s)).2])
  else ∃sl,e= .returned (.tuple #[sl, .int .i64 0, .int .i64 0])/\w'.ownsRow w.heap.size 140 4 sl (zr (pieces s)).length (flatToks (zr (pieces s)))
def zT(w:World)(r gb:Nat)(v:Value)(l:List Int):Prop:=
 ∃b cap,v= .slice b l.length cap/\l.length<=cap/\(l≠[]->∃g off,b=some ⟨g,off,none⟩/\g≠r/\g≠gb/\∀(i:Nat) (x:Int),l[i]? =some x->w.cell? ⟨g,off+i,none⟩=some (.int .i64 x))
def shF(gb n:Nat)(heads:Bool):Nat->Value
 |0=> .slice (some ⟨gb,0,none⟩) n 26
 |_=> .bool heads
structure ShM (w:World) (B r gb:Nat) (o:List Hold) (heads:Bool):Prop where
 s:w.rowIs r 100 2 (shF gb o.length heads)
 row:∃F:Nat->Value,w.rowIs gb 157 104 F/\∀(j:Nat) (h:Hold),o[j]? =some h->F (j*4)= .int .i64 h.kind/\F (j*4+1)= .int .i64 h.depth/\F (j*4+3)= .int .i64 h.blocks/\zT w r gb (F (j*4+2)) h.wants
 len:o.length<=26
 ne:r≠gb
 hr:B<=r
 hg:B<=gb
section
variable {w w':World} {B r gb:Nat} {o:List Hold} {heads:Bool}
theorem zT.kept{v:Value}{l:List Int}(h:zT w r gb v l)(hk:∀k,k<w.heap.size->k≠r->k≠gb->w'.heap[k]? =w.heap[k]?):zT w' r gb v l:=by
 obtain⟨b,cap,h1,h2,h3⟩:=h
 refine⟨b,cap,h1,h2,fun hl=>?_⟩;obtain⟨g,off,h4,h5,h6,h7⟩:=h3 hl
 refine⟨g,off,h4,h5,h6,fun i x hx=>?_⟩;have hc:=h7 i x hx;have hlt:=World.block_lt_of_cell? w ⟨g,off+i,none⟩ hc;exact(World.cell?_of_block (a:=⟨g,off+i,none⟩) (hk g hlt h5 h6)).trans hc
theorem ShM.kept(h:ShM w B r gb o heads)(hk:∀k,k<w.heap.size->w'.heap[k]? =w.heap[k]?):ShM w' B r gb o heads:=by
 obtain⟨F,h1,h2⟩:=h.row
 refine⟨h.s.of_block (hk r h.s.lt),⟨F,h1.of_block (hk gb h1.lt),fun j x hx=>?_⟩,h.len,h.ne,h.hr,h.hg⟩;obtain⟨a,b,c,d⟩:=h2 j x hx
 exact⟨a,b,c,d.kept fun k hl _ _=>hk k hl⟩
theorem ShM.drewN(h:ShM w B r gb o heads)(n:Nat):ShM (w.drewN n) B r gb o heads:=h.kept fun _ _=>rfl
theorem ShM.kin(h:ShM w B r gb o heads)(k:Kin w w'):ShM w' B r gb o heads:=h.kept k.block
theorem ShM.c0(h:ShM w B r gb o heads):w.cell? ⟨r,0,none⟩=some (.slice (some ⟨gb,0,none⟩) o.length 26):=h.s.cell (i:=0) (by omega)
theorem ShM.c1(h:ShM w B r gb o heads):w.cell? ⟨r,1,none⟩=some (.bool heads):=h.s.cell (i:=1) (by omega)
theorem ShM.kind(h:ShM w B r gb o heads){j:Nat}{x:Hold}(hx:o[j]? =some x):w.cell? ⟨gb,j*4,none⟩=some (.int .i64 x.kind):=by
 obtain⟨F,h1,h2⟩:=h.row
 have hj:=(List.getElem?_eq_some_iff.1 hx).1;have hl:=h.len;rw[h1.cell (by omega),(h2 j x hx).1]
theorem ShM.depth(h:ShM w B r gb o heads){j:Nat}{x:Hold}(hx:o[j]? =some x):w.cell? ⟨gb,j*4+1,none⟩=some (.int .i64 x.depth):=by
 obtain⟨F,h1,h2⟩:=h.row
 have hj:=(List.getElem?_eq_some_iff.1 hx).1;have hl:=h.len;rw[h1.cell (by omega),(h2 j x hx).2.1]
theorem ShM.blocks(h:ShM w B r gb o heads){j:Nat}{x:Hold}(hx:o[j]? =some x):w.cell? ⟨gb,j*4+3,none⟩=some (.int .i64 x.blocks):=by
 obtain⟨F,h1,h2⟩:=h.row
 have hj:=(List.getElem?_eq_some_iff.1 hx).1;have hl:=h.len;rw[h1.cell (by omega),(h2 j x hx).2.2.1]
theorem ShM.wants(h:ShM w B r gb o heads){j:Nat}{x:Hold}(hx:o[j]? =some x):∃v,w.cell? ⟨gb,j*4+2,none⟩=some v/\zT w r gb v x.wants:=by
 obtain⟨F,h1,h2⟩:=h.row
 have hj:=(List.getElem?_eq_some_iff.1 hx).1;have hl:=h.len;exact⟨_,h1.cell (by omega),(h2 j x hx).2.2.2⟩
end
def ixV:Option Nat->Int
 |some i=>i
 |none=> -1
theorem j5{B r gb:Nat}{o:List Hold}{heads:Bool}(w:World)(h:ShM w B r gb o heads):Calls Tryz.prog 52 #[.pointer (some ⟨r,0,none⟩)] w fun e w'=>e= .returned (.int .i64 (ixV (xf o)))/\w'=w:=by
 have c0:=h.c0;have hl:=h.len;have HM:=Lib.hid h;clear h;go_enter Tryz.func52,Tryz.ntmps52;go_wp2;go_loop [3] (fun c=>∃x:Int,c= .int .i64 x/\((x= -1/\∀(j:Nat) (y:Hold),o[j]? =some y->(!y.wants.isEmpty)=false)\/∃i:Nat,x=i/\i<o.length/\∀(j:Nat) (y:Hold),i<j->o[j]? =some y->(!y.wants.isEmpty)=false)) (fun c=>(intOf c+1).toNat)
 case atStart=>
  refine⟨(o.length:Int)-1,by go_num,?_⟩
  rcases Nat.eq_zero_or_pos o.length with h0|h0
  ·left;refine⟨by omega,fun j y hy=>?_⟩
   have:=(List.getElem?_eq_some_iff.1 hy).1
   omega
  ·right;refine⟨o.length-1,by omega,by omega,fun j y hj hy=>?_⟩
   have:=(List.getElem?_eq_some_iff.1 hy).1
   omega
 case round=>
  obtain⟨x,rfl,hx⟩:=hrel
  rcases hx with⟨rfl,hno⟩|⟨i,rfl,hi,hno⟩
  ·have hw:xf o=none:=lastIx_of_none hno;clear hno;go_wp2;go_ret;exact⟨rfl,rfl⟩
  ·obtain⟨y,hy⟩:∃y,o[i]? =some y:=⟨_,List.getElem?_eq_getElem hi⟩
   obtain⟨v,hv,b,cap,rfl,hcap,hne⟩:=HM.out.wants hy
   have hnn:(0:Int)<=i:=by omega
   clear hne;cases hyw:y.wants with
   |nil=>
    have hno2:∀(j:Nat) (z:Hold),i<=j->o[j]? =some z->(!z.wants.isEmpty)=false:=fun j z hj hz=>by
     rcases Nat.lt_or_ge i j with h'|h'
     ·exact hno j z h' hz
     ·have:j=i:=by omega
      subst this;rw[hy] at hz;cases hz
      rw[hyw];rfl
    have e0:y.wants.length=0:=by rw[hyw];rfl
    rw[e0] at hv hcap;clear hno hyw hy e0;go_wp2;refine⟨⟨(i:Int)-1,rfl,?_⟩,by simp[intOf]⟩
    rcases Nat.eq_zero_or_pos i with h0|h0
    ·left;exact⟨by omega,fun j z hz=>hno2 j z (by omega) hz⟩
    ·right;exact⟨i-1,by omega,by omega,fun j z hj hz=>hno2 j z (by omega) hz⟩
   |cons a l=>
    have hw:xf o=some i:=lastIx_of hy (by rw[hyw];rfl) hno
    have e0:0<y.wants.length:=by rw[hyw];simp
    generalize y.wants.length=n at e0 hv hcap;have e1:(0:Int)<n:=by omega
    clear hno hyw hy;go_wp2;go_ret;exact⟨rfl,rfl⟩
theorem zf9{B r gb:Nat}{o:List Hold}{heads:Bool}(d:Int)(w:World)(h:ShM w B r gb o heads):Calls Tryz.prog 97 #[.pointer (some ⟨r,0,none⟩), .int .i64 d] w fun e w'=>e= .returned (.int .i64 (ixV (heldIx o d)))/\w'=w:=by
 have c0:=h.c0;have hl:=h.len;have HM:=Lib.hid h;clear h;go_enter Tryz.func97,Tryz.ntmps97;go_wp2;go_loop [5] (fun c=>∃x:Int,c= .int .i64 x/\((x= -1/\∀(j:Nat) (y:Hold),o[j]? =some y->decide (y.depth=d)=false)\/∃i:Nat,x=i/\i<o.length/\∀(j:Nat) (y:Hold),i<j->o[j]? =some y->decide (y.depth=d)=false)) (fun c=>(intOf c+1).toNat)
 case atStart=>
  refine⟨(o.length:Int)-1,by go_num,?_⟩
  rcases Nat.eq_zero_or_pos o.length with h0|h0
  ·left;refine⟨by omega,fun j y hy=>?_⟩
   have:=(List.getElem?_eq_some_iff.1 hy).1
   omega
  ·right;refine⟨o.length-1,by omega,by omega,fun j y hj hy=>?_⟩
   have:=(List.getElem?_eq_some_iff.1 hy).1
   omega
 case round=>
  obtain⟨x,rfl,hx⟩:=hrel
  rcases hx with⟨rfl,hno⟩|⟨i,rfl,hi,hno⟩
  ·have hw:heldIx o d=none:=lastIx_of_none hno;clear hno;go_wp2;go_ret;exact⟨rfl,rfl⟩
  ·obtain⟨y,hy⟩:∃y,o[i]? =some y:=⟨_,List.getElem?_eq_getElem hi⟩
   have hv:=HM.out.depth hy;have hnn:(0:Int)<=i:=by omega
   by_cases hyd:y.depth=d
   ·have hw:heldIx o d=some i:=lastIx_of hy (by simp[hyd]) hno
    have hd:(y.depth==d)=true:=by simp[hyd]
    clear hno hyd hy;go_wp2;go_ret;exact⟨rfl,rfl⟩
   ·have hno2:∀(j:Nat) (z:Hold),i<=j->o[j]? =some z->decide (z.depth=d)=false:=fun j z hj hz=>by
     rcases Nat.lt_or_ge i j with h'|h'
     ·exact hno j z h' hz
     ·have:j=i:=by omega
      subst this;rw[hy] at hz;cases hz
      simp[hyd]
    have hd:(y.depth==d)=false:=by simp[hyd]
    clear hno hyd hy;go_wp2;refine⟨⟨(i:Int)-1,rfl,?_⟩,by simp[intOf]⟩
    rcases Nat.eq_zero_or_pos i with h0|h0
    ·left;exact⟨by omega,fun j z hz=>hno2 j z (by omega) hz⟩
    ·right;exact⟨i-1,by omega,by omega,fun j z hj hz=>hno2 j z (by omega) hz⟩
structure Ap (r gb:Nat) (w w':World):Prop where
 os:w'.os=w.os
 out:w'.output=w.output
 size:w.heap.size<=w'.heap.size
 block:∀k,k<w.heap.size->k≠r->k≠gb->w'.heap[k]? =w.heap[k]?
section
variable {r gb:Nat} {w w' w'':World}
theorem Ap.refl(w:World):Ap r gb w w:=⟨rfl,rfl,Nat.le_refl _,fun _ _ _ _=>rfl⟩
theorem Ap.trans(h:Ap r gb w w')(k:Ap r gb w' w''):Ap r gb w w'':=
 ⟨k.os.trans h.os,k.out.trans h.out,Nat.le_trans h.size k.size,fun j hj h1 h2=>(k.block j (Nat.lt_of_lt_of_le hj h.size) h1 h2).trans (h.block j hj h1 h2)⟩
theorem Ap.of_kin(k:Kin w w'):Ap r gb w w':=⟨k.os,k.out,k.size,fun j hj _ _=>k.block j hj⟩
theorem Ap.set(h:Ap r gb w w'){a:Addr}(ha:a.block=r\/a.block=gb)(v:Value):Ap r gb w (w'.setCell a v):=
 ⟨h.os,h.out,by simp[World.setCell];exact h.size,fun j hj h1 h2=>(Go.Deep.blk_setCell_other _ _ _ _ (by rcases ha with e|e<;>rw[e]<;>assumption)).trans (h.block j hj h1 h2)⟩
theorem Ap.drewN(h:Ap r gb w w')(n:Nat):Ap r gb w (w'.drewN n):=⟨h.os,h.out,h.size,h.block⟩
theorem Ap.cell(h:Ap r gb w w'){n o:Nat}(hn:n<w.heap.size)(h1:n≠r)(h2:n≠gb):w'.cell? ⟨n,o,none⟩=w.cell? ⟨n,o,none⟩:=World.cell?_of_block (a:=⟨n,o,none⟩) (h.block n hn h1 h2)
theorem Ap.frozen(h:Ap r gb w w'){n o:Nat}(hn:n<w.heap.size)(h1:n≠r)(h2:n≠gb):w'.frozen? ⟨n,o,none⟩=w.frozen? ⟨n,o,none⟩:=World.frozen?_of_block (a:=⟨n,o,none⟩) (h.block n hn h1 h2)
end
section
variable {w w':World} {B r gb:Nat} {o:List Hold} {heads:Bool}
theorem ShM.fs(h:ShM w B r gb o heads)(i:Nat):w.frozen? ⟨r,i,none⟩=false:=h.s.frozen i
theorem ShM.fr(h:ShM w B r gb o heads)(i:Nat):w.frozen? ⟨gb,i,none⟩=false:=by
 obtain⟨F,h1,_⟩:=h.row
 exact h1.frozen i
theorem ShM.trunc(h:ShM w B r gb o heads){m:Nat}(hm:m<=o.length):ShM (w.setCell ⟨r,0,none⟩ (.slice (some ⟨gb,0,none⟩) m 26)) B r gb (o.take m) heads:=by
 have hlen:(o.take m).length=m:=by simp;omega
 obtain⟨F,h1,h2⟩:=h.row
 refine⟨(h.s.set 0 _).congr fun i hi=>?_,⟨F,h1.setOther (fun e=>h.ne e.symm) _,fun j x hx=>?_⟩,by have:=h.len;omega,h.ne,h.hr,h.hg⟩
 ·rw[hlen]
  match i,hi with
  |0,_=>rfl
  |1,_=>rfl
 ·rw[List.getElem?_take] at hx
  split at hx
  ·obtain⟨a,b,c,d⟩:=h2 j x hx
   exact⟨a,b,c,d.kept fun k _ h1 _=>Go.Deep.blk_setCell_other _ _ _ _ h1⟩
  ·cases hx
theorem ShM.setHeads(h:ShM w B r gb o heads)(b:Bool):ShM (w.setCell ⟨r,1,none⟩ (.bool b)) B r gb o b:=by
 obtain⟨F,h1,h2⟩:=h.row
 refine⟨(h.s.set 1 _).congr fun i hi=>?_,⟨F,h1.setOther (fun e=>h.ne e.symm) _,fun j x hx=>?_⟩,h.len,h.ne,h.hr,h.hg⟩
 ·match i,hi with
  |0,_=>rfl
  |1,_=>rfl
 ·obtain⟨a,b,c,d⟩:=h2 j x hx
  exact⟨a,b,c,d.kept fun k _ h1 _=>Go.Deep.blk_setCell_other _ _ _ _ h1⟩
theorem ShM.setBlocks(h:ShM w B r gb o heads){u:Nat}{g:Hold}(hu:o[u]? =some g)(b:Int):ShM (w.setCell ⟨gb,u*4+3,none⟩ (.int .i64 b)) B r gb (o.set u {g with blocks:=b}) heads:=by
 obtain⟨F,h1,h2⟩:=h.row
 have hul:=(List.getElem?_eq_some_iff.1 hu).1;refine⟨by rw[List.length_set];exact h.s.setOther h.ne _,⟨_,h1.set (u*4+3) _,fun j x hx=>?_⟩,by rw[List.length_set];exact h.len,h.ne,h.hr,h.hg⟩
 rw[List.getElem?_set] at hx;have keep:∀v l,zT w r gb v l->zT (w.setCell ⟨gb,u*4+3,none⟩ (.int .i64 b)) r gb v l:=fun v l hv=>hv.kept fun k _ _ h2=>Go.Deep.blk_setCell_other _ _ _ _ h2;by_cases e:u=j
 ·subst e;rw[if_pos rfl,if_pos hul] at hx;cases hx;obtain⟨a,b',c,d⟩:=h2 u g hu
  simp only[show ¬u*4=u*4+3 from by omega,show ¬u*4+1=u*4+3 from by omega,show ¬u*4+2=u*4+3 from by omega,if_false,if_true]
  exact⟨a,b',trivial,keep _ _ d⟩
 ·rw[if_neg e] at hx;obtain⟨a,b',c,d⟩:=h2 j x hx
  simp only[show ¬j*4=u*4+3 from by omega,show ¬j*4+1=u*4+3 from by omega,show ¬j*4+2=u*4+3 from by omega,show ¬j*4+3=u*4+3 from by omega,if_false]
  exact⟨a,b',c,keep _ _ d⟩
theorem ShM.setWants(h:ShM w B r gb o heads){u:Nat}{g:Hold}(hu:o[u]? =some g){v:Value}{l:List Int}(hv:zT w r gb v l):ShM (w.setCell ⟨gb,u*4+2,none⟩ v) B r gb (o.set u {g with wants:=l}) heads:=by
 obtain⟨F,h1,h2⟩:=h.row
 have hul:=(List.getElem?_eq_some_iff.1 hu).1;refine⟨by rw[List.length_set];exact h.s.setOther h.ne _,⟨_,h1.set (u*4+2) _,fun j x hx=>?_⟩,by rw[List.length_set];exact h.len,h.ne,h.hr,h.hg⟩
 rw[List.getElem?_set] at hx;have keep:∀v' l,zT w r gb v' l->zT (w.setCell ⟨gb,u*4+2,none⟩ v) r gb v' l:=fun v l hv=>hv.kept fun k _ _ h2=>Go.Deep.blk_setCell_other _ _ _ _ h2;by_cases e:u=j
 ·subst e;rw[if_pos rfl,if_pos hul] at hx;cases hx;obtain⟨a,b',c,d⟩:=h2 u g hu
  simp only[show ¬u*4=u*4+2 from by omega,show ¬u*4+1=u*4+2 from by omega,show ¬u*4+3=u*4+2 from by omega,if_false,if_true]
  exact⟨a,b',c,keep _ _ hv⟩
 ·rw[if_neg e] at hx;obtain⟨a,b',c,d⟩:=h2 j x hx
  simp only[show ¬j*4=u*4+2 from by omega,show ¬j*4+1=u*4+2 from by omega,show ¬j*4+2=u*4+2 from by omega,show ¬j*4+3=u*4+2 from by omega,if_false]
  exact⟨a,b',c,keep _ _ d⟩
theorem zT.tail{v:Value}{x:Int}{l:List Int}(h:zT w r gb v (x::l)):∃g off cap,v= .slice (some ⟨g,off,none⟩) (l.length+1) cap/\l.length+1<=cap/\w.cell? ⟨g,off,none⟩=some (.int .i64 x)/\zT w r gb (.slice (some ⟨g,off+1,none⟩) l.length (cap-1)) l/\(cap<=1->zT w r gb (.slice (some ⟨g,off,none⟩) l.length 0) l):=by
 obtain⟨b,cap,h1,h2,h3⟩:=h
 obtain⟨g,off,rfl,h5,h6,h7⟩:=h3 (by simp)
 refine⟨g,off,cap,h1,by simpa using h2,h7 0 x rfl,⟨some ⟨g,off+1,none⟩,cap-1,rfl,by simp at h2;omega,fun _=>⟨g,off+1,rfl,h5,h6,fun i y hy=>?_⟩⟩,fun hc=>?_⟩
 ·have:=h7 (i+1) y (by simpa using hy)
  rw[show off+(i+1)=off+1+i from by omega] at this
  exact this
 ·have hl:l=[]:=List.eq_nil_of_length_eq_zero (by simp at h2;omega)
  subst hl;exact⟨some ⟨g,off,none⟩,0,rfl,Nat.le_refl _,fun h=>absurd rfl h⟩
end
end Go.Proofs.YtonmcakdofbjiaaGreatDoor
