/- A part. -/
import Derived.Test.YtonmcakdofbjiaaGreatDoorK17
import Derived.Laws.AppendOwnNone
import Derived.Test.YtonmcakdofbjiaaGreatDoorK15
import Derived.Deep.OwnRows
set_option linter.all false
set_option maxRecDepth 100000
set_option maxHeartbeats 8000000
namespace Go.Proofs.YtonmcakdofbjiaaGreatDoor
open Go.RowKit
def za7(C:Ctx)(w0:World):List Tr->Value->World->Prop:=fun ts v w'=>KidsOwn C w0 w' v ts
def zbz(C:Ctx)(f:Nat):Prop:=∀i w r,rd C f .stmts i=some r->Rd C i w->Calls Tryz.prog 84 #[.pointer (some ⟨C.r,0,none⟩)] w (zG C w r (za7 C w))
def prep(ks:List Tr):Res (List Tr)->Res (List Tr)
 | .ok us j=> .ok (ks++us) j
 | .no p=> .no p
theorem zcf{C:Ctx}{F:FuncId}{a:Array Value}{w:World}{j:Nat}(h:Calls Tryz.prog F a w (zG C w (.ok [] j) (wF C w))):Calls Tryz.prog F a w fun e w'=>e= .returned (.pointer none)/\Rd C j w'/\Grew C w w':=by
 refine h.mono fun e w' he=>?_
 cases e with
 |returned v=>
  obtain⟨_,_,h,h1,h3,h4⟩:=he
  cases h
  rcases h1 with⟨_,rfl⟩|⟨t,p,h1,_⟩
  ·exact⟨rfl,h3,h4⟩
  ·cases h1
 |panicked ch=>obtain⟨q,h,hF⟩:=he;cases h
 |outgrown=>exact he.elim
theorem zce{C:Ctx}{F:FuncId}{a:Array Value}{w:World}{j:Nat}{t:Tr}{l:List Tr}(h:Calls Tryz.prog F a w (zG C w (.ok (t::l) j) (wF C w))):Calls Tryz.prog F a w fun e w'=>∃p,l=[]/\e= .returned (.pointer (some ⟨p,0,none⟩))/\TrAt (Old C w) w' p t/\Rd C j w'/\Grew C w w':=by
 refine h.mono fun e w' he=>?_
 cases e with
 |returned v=>
  obtain⟨_,_,h,h1,h3,h4⟩:=he
  cases h
  rcases h1 with⟨h1,_⟩|⟨u,p,h1,rfl,hT⟩
  ·cases h1
  ·cases h1;exact⟨p,rfl,rfl,hT,h3,h4⟩
 |panicked ch=>obtain⟨q,h,hF⟩:=he;cases h
 |outgrown=>exact he.elim
theorem vj{C:Ctx}{F:FuncId}{a:Array Value}{w:World}{ts:List Tr}{j:Nat}(h:Calls Tryz.prog F a w (zG C w (.ok ts j) (za7 C w))):Calls Tryz.prog F a w fun e w'=>∃v,e= .returned v/\KidsOwn C w w' v ts/\Rd C j w'/\Grew C w w':=by
 refine h.mono fun e w' he=>?_
 cases e with
 |returned v=>obtain⟨_,_,h,h1,h3,h4⟩:=he;cases h;exact⟨v,rfl,h1,h3,h4⟩
 |panicked ch=>obtain⟨q,h,hF⟩:=he;cases h
 |outgrown=>exact he.elim
def Up{α:Type}(i:Nat)(x:Option (Res α)):Prop:=∀a j,x=some (.ok a j)->i<=j
theorem up_then{α β:Type}{i:Nat}{x:Option (Res α)}{F:α->Nat->Option (Res β)}(h:Up i x)(k:∀a j,i<=j->Up i (F a j)):Up i (andThen x F):=by
 intro b j hb
 cases x with
 |none=>cases hb
 |some y=>cases y with
  |no p=>simp[andThen] at hb
  |ok a j'=>exact k a j' (h a j' rfl) b j hb
theorem up_ok{α:Type}{i k:Nat}{a:α}(h:i<=k):Up i (some (.ok a k)):=fun b j hb=>by cases hb;exact h
theorem up_no{α:Type}{i:Nat}{p:Int}:Up (α:=α) i (some (.no p)):=fun b j hb=>by cases hb
theorem up_none{α:Type}{i:Nat}:Up (α:=α) i none:=fun b j hb=>by cases hb
theorem up_want{C:Ctx}{s:ByteArray}{i k:Nat}(h:i<=k):Up i (wantR C s k):=by
 unfold wantR;split
 ·exact up_ok (by omega)
 ·exact up_no
theorem up_name{C:Ctx}{i k:Nat}(h:i<=k):Up i (yx C k):=by
 unfold yx;split
 ·exact up_ok (by omega)
 ·exact up_no
theorem up_number{C:Ctx}{i k:Nat}(h:i<=k):Up i (z6 C k):=by
 unfold z6;split
 ·exact up_ok (by omega)
 ·exact up_no
theorem xo(C:Ctx):∀(f:Nat) (nt:NT) (i k:Nat),i<=k->Up i (rd C f nt k):=by
 intro f
 induction f with
 |zero=>intro nt i k h;exact up_none
 |succ f ih=>
  intro nt i k h
  cases nt<;>simp only[rd]<;>
   repeat' first
    |exact up_ok (by omega)
    |exact up_no
    |exact up_none
    |exact up_want (by omega)
    |exact up_name (by omega)
    |exact up_number (by omega)
    |exact ih _ _ _ (by omega)
    |(refine up_then ?_ fun a j hj=>?_)
    |split
theorem gi{C:Ctx}{f i j:Nat}{t:Tr}{l:List Tr}(h:rd C f .stmt i=some (.ok (t::l) j)):i<j:=by
 cases f with
 |zero=>cases h
 |succ f=>
  have key:rd C (f+1) .stmt i=some (.ok [] i)\/Up (i+1) (rd C (f+1) .stmt i):=by
   have ih:=fun nt i k=>xo C f nt i k
   simp only[rd]
   repeat' first
    |exact .inl rfl
    |(refine .inr (up_then ?_ fun a j hj=>?_))
    |exact up_ok (by omega)
    |exact up_no
    |exact up_none
    |exact up_want (by omega)
    |exact up_name (by omega)
    |exact up_number (by omega)
    |exact ih _ _ _ (by omega)
    |(refine up_then ?_ fun a j hj=>?_)
    |split
  rcases key with h2|h2
  ·rw[h] at h2;cases h2
  ·exact h2 _ _ h
theorem stmts_step(C:Ctx)(n:Nat)(ih:∀f,f<=n->zem C f):zbz C (n+1):=by
 intro i w r hr h
 have H0:=Lib.hid h
 have HI:=Lib.hid ih
 have HR:=Lib.hid hr
 have hlt:=h.lt
 obtain⟨ti,hi,hz0,hz1,hz2⟩:=info_parts vP
 clear ih hr h
 go_enter Tryz.func84,Tryz.ntmps84
 go_wp2
 go_loopg [3] (n+1) (fun g x wr=>∃ks j rr,KidsOwn C w wr x ks/\Rd C j wr/\Grew C w wr/\g<=n+1/\ks.length<=j/\rd C g .stmts j=some rr/\r=prep ks rr)
 case atStart=>exact⟨[],i,r,ux C w w,H0.out,World.grownBy.refl _ _,Nat.le_refl _,Nat.zero_le _,HR.out,by cases r<;>rfl⟩
 case round=>
  obtain⟨ks,j,rr,hK,hR,hG,hg,hlen,hr,hrr⟩:=hrel
  cases gk with
  |zero=>cases hr
  |succ g=>
   simp only[rd] at hr
   cases hx:rd C g .stmt j with
   |none=>rw[hx] at hr;cases hr
   |some y=>
    rw[hx] at hr
    have hS:=HI.out g (by omega) j wr y hx hR
    have HK:=Lib.hid hK
    have HRd:=Lib.hid hR
    have HG:=Lib.hid hG
    have HRR:=Lib.hid hrr
    have hjl:=hR.le
    have hll:=hR.len
    have HX2:=Lib.hid hx
    clear hK hR hG hrr hx
    cases y with
    |no p=>
     simp only[andThen,Option.some.injEq] at hr
     have hp:r= .no p:=by rw[HRR.out,<-hr];rfl
     subst hp
     have hS:=zE hS
     clear hr HRR
     go_wp2_with (go_at_call 122;with_reducible refine(hS).mono ?_;rintro e w' ⟨ch,rfl,hF⟩)
     exact⟨rfl,_,rfl,hF.later HG.out⟩
    |ok ts j2=>
     cases ts with
     |nil=>
      simp only[andThen,List.isEmpty_nil,if_true,Option.some.injEq] at hr
      have hp:r= .ok ks j2:=by rw[HRR.out,<-hr];simp[prep]
      subst hp
      have hS:=zcf hS
      clear hr HRR
      go_wp2_with (go_at_call 122;with_reducible refine(hS).mono ?_;rintro e w' ⟨rfl,hR2,hG2⟩)
      go_ret
      exact⟨ks,j2,rfl,HK.out.grew hlt hG2,hR2,grown_trans HG.out hG2⟩
     |cons t l=>
      have hS:=zce hS
      have HE:=Lib.hid hr
      clear hr
      have hjj:j<j2:=gi HX2.out
      go_wp2_with (first|(go_at_call 122;with_reducible refine(hS).mono ?_;rintro e w2 ⟨p,hl,rfl,hT2,hR2,hG2⟩)|(at_builtin;have K2:=HK.out.grew hlt hG2;obtain⟨ps,hps,hown,htr⟩:=id K2;refine zh _ rfl (.tmp 10) (.tmp 12) 87 rfl w.heap.size 89 ti _ 1 8 Tryz.underlying87 hi hz0 hz1 hz2 rfl (by decide) _ _ (ps.map ptrV) rfl (hown.alloc _) ⟨w2.heap.size,0,none⟩ 1 1 [ptrV p] rfl rfl (new1 w2 p) (yT [p]) (by simp[maxLen];omega) (by omega) (by have:=HG.out.size;have:=hG2.size;simp;omega) ?_;intro v3 w3 hown3 hgrow3 hv3))
      subst hl
      have hsz:w.heap.size<=wr.heap.size:=HG.out.size
      have K3:KidsOwn C w w3 v3 (ks++[t]):=KidsOwn.append (ts:=[t]) (qs:=[p]) hps htr rfl (yD (w2:=w) hT2 hsz (fun k hk=>(HK.out.row hlt hk).2.2)) hown3 hgrow3 hv3
      have hrow:∀k,u3.ownBlock=some k->w.heap.size<=k:=fun k hk=>(K2.row hlt hk).1
      have hR3:=H0.out.row (hR2.alloc (Obj.cells #[Value.pointer (some ⟨p,0,none⟩)] 89)) hgrow3 hrow
      have hG3:=qI (grown_trans (grown_trans HG.out hG2) (World.grownBy_alloc w2 (Obj.cells #[Value.pointer (some ⟨p,0,none⟩)] 89) (some C.r))) hgrow3 hrow
      have hr:=HE.out
      simp only[andThen,List.isEmpty_cons] at hr
      have K3:=Lib.hid K3
      have hR3:=Lib.hid hR3
      have hG3:=Lib.hid hG3
      clear hown hown3 hgrow3 hv3 htr hps K2 hT2 hR2 hG2 hrow
      cases hy:rd C g .stmts j2 with
      |none=>rw[hy] at hr;simp[andThen] at hr
      |some y2=>
       rw[hy] at hr
       have HY:=Lib.hid hy
       have HRY:Hid (rr=prep [t] y2):=by
        show rr=prep [t] y2
        cases y2<;>simp[andThen,prep] at hr⊢ <;>exact hr.symm
       clear hr hy
       go_wp2
       go_roundg g
       case measure=>omega
       case rel=>
        refine⟨ks++[t],j2,y2,K3.out,hR3.out,hG3.out,by omega,by simp;omega,HY.out,?_⟩
        rw[HRR.out,HRY.out]
        cases y2<;>simp[prep]
theorem block_step(C:Ctx)(n:Nat)(hS:zbz C n):zbA C (n+1):=by
 intro i w r hr h
 have hat:=yC C i w h
 simp only[rd] at hr
 have HR:=Lib.hid hr
 have HSS:=Lib.hid hS
 have hlt:=h.lt
 have H0:=Lib.hid h
 clear hr hS h
 go_enter Tryz.func158,Tryz.ntmps158
 go_upto_region 2 with(go_at_call 78;refine(hat).mono ?_;rintro e w1 ⟨rfl,hR1,hG1⟩)
 have S0:StI C w i w1.heap.size (w1.heap.size+1) 9 ⟨#[]⟩ 0 (placeOf C.l C.e i) i (w1.alloc (Obj.cells #[Value.int IntKind.i64 0,Value.int IntKind.i64 9,Value.string {data:= #[]},Value.int IntKind.i64 0,Value.int IntKind.i64 0,Value.int IntKind.i64 (placeOf C.l C.e i)] 50)):=
  ⟨H0.out,hR1.alloc _,grown_trans hG1 (World.grownBy_alloc _ _ _),xC _ _ _ _ _ _ _ _,hG1.size,by simp,by simp⟩
 have hwb:w.heap.size<=(w1.alloc (Obj.cells #[Value.int IntKind.i64 0,Value.int IntKind.i64 9,Value.string {data:= #[]},Value.int IntKind.i64 0,Value.int IntKind.i64 0,Value.int IntKind.i64 (placeOf C.l C.e i)] 50)).heap.size:=by have:=hG1.size;simp;omega
 generalize (w1.alloc (Obj.cells #[Value.int IntKind.i64 0,Value.int IntKind.i64 9,Value.string {data:= #[]},Value.int IntKind.i64 0,Value.int IntKind.i64 0,Value.int IntKind.i64 (placeOf C.l C.e i)] 50))=wB at S0 hwb⊢
 generalize w1.heap.size=N at S0⊢
 clear hR1 hG1 hat
 have hr:=HR.out
 by_cases c1:comesB C.l i ⟨#[123]⟩=true
 ·simp only[wantR,if_pos c1,andThen] at hr
  cases hx:rd C n .stmts (i+1) with
  |none=>rw[hx] at hr;cases hr
  |some y=>
   rw[hx] at hr
   have hS:=fun W a=>HSS.out (i+1) W y hx a
   clear hx
   cases y with
   |no p=>
    obtain rfl:Res.no p=r:=by simpa only [andThen,Option.some.injEq] using hr
    have hS:=fun W a=>zE (hS W a)
    clear hr HR HSS
    go_wp2_with (first|(go_at_call 82;with_reducible refine(want_at C i ⟨#[123]⟩ _ _ (by simp) S0.rd c1).mono ?_;rintro e w2 ⟨rfl,hR2,hG2⟩;have S2:=S0.call hR2 hG2)|(go_at_call 84;with_reducible refine(hS _ S2.rd).mono ?_;rintro e w3 ⟨ch,rfl,hF⟩))
    exact⟨rfl,_,rfl,hF.later S2.grew⟩
   |ok ts j=>
    have hS:=fun W a=>vj (hS W a)
    simp only[andThen] at hr
    by_cases c2:comesB C.l j ⟨#[125]⟩=true
    ·simp only[wantR,if_pos c2,andThen] at hr
     have HE:=Lib.hid (Option.some.inj hr)
     clear hr HR HSS
     go_wp2_with (first|(go_at_call 82;with_reducible refine(want_at C i ⟨#[123]⟩ _ _ (by simp) S0.rd c1).mono ?_;rintro e w2 ⟨rfl,hR2,hG2⟩;have S2:=S0.call hR2 hG2)|(go_at_call 84;with_reducible refine(hS _ S2.rd).mono ?_;rintro e w3 ⟨v3,rfl,K3,hR3,hG3⟩;have S3:=S2.call hR3 hG3)|(go_at_call 82;with_reducible refine(want_at C j ⟨#[125]⟩ _ _ (by simp) S3.rd c2).mono ?_;rintro e w4 ⟨rfl,hR4,hG4⟩;have S4:=S3.call hR4 hG4;have K4:=K3.grew S2.rd.lt hG4;have a0:=S4.six.c0;have a1:=S4.six.c1;have a2:=S4.six.c2;have a3:=S4.six.c3;have a4:=S4.six.c4;have a5:=S4.six.c5;obtain⟨bb,cc,rfl,hKK⟩:=K4.kids S2.rd.lt)|(go_at_call 80;with_reducible refine(leaf_any ⟨0,9,⟨#[]⟩,0,0,placeOf C.l C.e i⟩ _ _ _ _).mono ?_;rintro e wl ⟨rfl,rfl⟩))
     go_ret
     exact post_node (wB:=w2) ⟨0,9,⟨#[]⟩,0,0,placeOf C.l C.e i⟩ HE.out.symm hKK S2.grew.size S4.rd S4.grew
    ·have c2n:comesB C.l j ⟨#[125]⟩=false:=by simpa using c2
     simp only[wantR,if_neg c2,andThen,Option.some.injEq] at hr
     subst hr
     clear c2 HR HSS
     go_wp2_with (first|(go_at_call 82;with_reducible refine(want_at C i ⟨#[123]⟩ _ _ (by simp) S0.rd c1).mono ?_;rintro e w2 ⟨rfl,hR2,hG2⟩;have S2:=S0.call hR2 hG2)|(go_at_call 84;with_reducible refine(hS _ S2.rd).mono ?_;rintro e w3 ⟨v3,rfl,K3,hR3,hG3⟩;have S3:=S2.call hR3 hG3)|(go_at_call 82;with_reducible refine(wantnot_at C j ⟨#[125]⟩ _ _ (by simp) S3.rd c2n).mono ?_;rintro e w4 ⟨ch,rfl,hF⟩))
     exact⟨rfl,_,rfl,hF.later S3.grew⟩
 ·have c1n:comesB C.l i ⟨#[123]⟩=false:=by simpa using c1
  simp only[wantR,if_neg c1,andThen,Option.some.injEq] at hr
  subst hr
  clear c1 HR HSS
  go_wp2_with (go_at_call 82;with_reducible refine(wantnot_at C i ⟨#[123]⟩ _ _ (by simp) S0.rd c1n).mono ?_;rintro e w2 ⟨ch,rfl,hF⟩)
  exact⟨rfl,_,rfl,hF.later S0.grew⟩
theorem stmts_all(C:Ctx):∀f,zbA C f/\zem C f/\zbz C f:=by
 intro f
 induction f using Nat.strongRecOn with
 |_ f ih=>
  cases f with
  |zero=>refine⟨?_,?_,?_⟩<;>(intro i w r hr _;cases hr)
  |succ n=>exact⟨block_step C n (ih n (by omega)).2.2,stmt_step C n (ih n (by omega)).1,stmts_step C n fun f hf=>(ih f (by omega)).2.1⟩
theorem kN:(Tryz.prog.info? 50).map (fun i=>(i.zero,i.size,i.bytes))=some (some (.agg #[.int .i64 0, .int .i64 0, .string ⟨#[]⟩, .int .i64 0, .int .i64 0, .int .i64 0]),6,56):=by kernel_rfl
theorem wpList_append_leaf{C:Ctx}{w w3:World}{i j:Nat}{ks:List Tr}{ops:Array Oper}{rest:List Oper}{o:Oper}{a:Act}{Q:Exit->Act->World->Prop}(n:Nd)(b:Option Addr)(cap:Nat)(hgd:o.guard=none)(s x:Operand)
 (ho:o.op= .call {callee:= .builtin .append,args:= #[s,x],argTypes:= #[87,87]}) (h0:Rd C i w) (hR:Rd C j w3) (hG:Grew C w w3) {v:Value} (hK:KidsOwn C w w3 v ks) (hlen:ks.length<=8193) (hs:a.eval s=v) (hx:a.eval x= .slice (some ⟨w3.heap.size+1+1,0,none⟩) 1 1)
 (h:∀v' w',KidsOwn C w w' v' (ks++[.mk n []])->Rd C j w'->Grew C w w'->wpList Tryz.prog ops Q rest (a.put o.dst v') w'):
 wpList Tryz.prog ops Q (o::rest) a (((w3.alloc (.cells #[.int .i64 n.depth, .int .i64 n.kind, .string n.name, .int .i64 n.num, .int .i64 n.op, .int .i64 n.at_] 50)).alloc (.cells #[.int .i64 n.depth, .int .i64 n.kind, .string n.name, .int .i64 n.num, .int .i64 n.op, .int .i64 n.at_, .slice b 0 cap] 148)).alloc (.cells #[.pointer (some ⟨w3.heap.size+1,0,none⟩)] 89)):=by
 obtain⟨ti,hi,hz0,hz1,hz2⟩:=info_parts vP
 have hT:=tr_leaf (C:=C) (w0:=w3) n (wE _ w3 b cap) hR.lt (Nat.le_refl _)
 have hg2:Grew C w3 ((w3.alloc (.cells #[.int .i64 n.depth, .int .i64 n.kind, .string n.name, .int .i64 n.num, .int .i64 n.op, .int .i64 n.at_] 50)).alloc (.cells #[.int .i64 n.depth, .int .i64 n.kind, .string n.name, .int .i64 n.num, .int .i64 n.op, .int .i64 n.at_, .slice b 0 cap] 148)):=grew_alloc2 _ _ _
 have hsz:((w3.alloc (.cells #[.int .i64 n.depth, .int .i64 n.kind, .string n.name, .int .i64 n.num, .int .i64 n.op, .int .i64 n.at_] 50)).alloc (.cells #[.int .i64 n.depth, .int .i64 n.kind, .string n.name, .int .i64 n.num, .int .i64 n.op, .int .i64 n.at_, .slice b 0 cap] 148)).heap.size=w3.heap.size+1+1:=by simp
 have hR2:=(hR.alloc (.cells #[.int .i64 n.depth, .int .i64 n.kind, .string n.name, .int .i64 n.num, .int .i64 n.op, .int .i64 n.at_] 50)).alloc (.cells #[.int .i64 n.depth, .int .i64 n.kind, .string n.name, .int .i64 n.num, .int .i64 n.op, .int .i64 n.at_, .slice b 0 cap] 148)
 simp only[List.length_nil] at hT
 generalize ((w3.alloc (.cells #[.int .i64 n.depth, .int .i64 n.kind, .string n.name, .int .i64 n.num, .int .i64 n.op, .int .i64 n.at_] 50)).alloc (.cells #[.int .i64 n.depth, .int .i64 n.kind, .string n.name, .int .i64 n.num, .int .i64 n.op, .int .i64 n.at_, .slice b 0 cap] 148))=W at hT hg2 hsz hR2⊢
 have K2:=hK.grew h0.lt hg2
 obtain⟨ps,hps,hown,htr⟩:=id K2
 rw[<-hsz] at hx
 refine zh _ hgd s x 87 ho w.heap.size 89 ti _ 1 8 Tryz.underlying87 hi hz0 hz1 hz2 rfl (by decide) v _ (ps.map ptrV) hs (hown.alloc _) ⟨W.heap.size,0,none⟩ 1 1 [ptrV (w3.heap.size+1)] hx rfl (new1 W _) (yT [w3.heap.size+1]) (by simp[maxLen];omega) (by omega) (by have:=hG.size;have:=hg2.size;simp;omega) ?_
 intro v3 w4 hown3 hgrow3 hv3
 have K3:KidsOwn C w w4 v3 (ks++[.mk n []]):=KidsOwn.append (ts:=[.mk n []]) (qs:=[w3.heap.size+1]) hps htr rfl (yD (w2:=w) hT hG.size (fun k hk=>(hK.row h0.lt hk).2.2)) hown3 hgrow3 hv3
 have hrow:∀k,v.ownBlock=some k->w.heap.size<=k:=fun k hk=>(hK.row h0.lt hk).1
 exact h v3 w4 K3 (h0.row (hR2.alloc _) hgrow3 hrow) (qI (grown_trans (grown_trans hG hg2) (World.grownBy_alloc W _ (some C.r))) hgrow3 hrow)
theorem wpList_append_kids{C:Ctx}{w wk W:World}{i j:Nat}{ks ts:List Tr}{ops:Array Oper}{rest:List Oper}{o:Oper}{a:Act}{Q:Exit->Act->World->Prop}(hgd:o.guard=none)(s x:Operand)
 (ho:o.op= .call {callee:= .builtin .append,args:= #[s,x],argTypes:= #[87,87]}) (h0:Rd C i w) (hR:Rd C j W) (hG:Grew C w W) {v u:Value} (hK:KidsOwn C w W v ks) (hv:∀k,v.ownBlock=some k->k<wk.heap.size) (hwk:w.heap.size<=wk.heap.size) (hU:KidsOwn C wk W u ts) (hlen:ks.length+ts.length<=8193) (hs:a.eval s=v) (hx:a.eval x=u)
 (h:∀v' w',KidsOwn C w w' v' (ks++ts)->Rd C j w'->Grew C w w'->wpList Tryz.prog ops Q rest (a.put o.dst v') w'):wpList Tryz.prog ops Q (o::rest) a W:=by
 obtain⟨ti,hi,hz0,hz1,hz2⟩:=info_parts vP
 obtain⟨ps,hps,hown,htr⟩:=id hK
 obtain⟨qs,hqs,hown2,htr2⟩:=id hU
 rcases hown2.2 with⟨rfl,hn⟩|⟨g,cap,cur,rfl,hb,hg,hn,hm,hsz,htake⟩
 ·have hts:ts=[]:=List.eq_nil_of_length_eq_zero hn
  subst hts
  refine wpList_append_own_none hgd s x 87 ho w.heap.size 89 ti 1 Tryz.underlying87 hi v _ _ hs hown hx ?_
  exact h v W (by rw[List.append_nil];exact hK) hR hG
 ·refine zh _ hgd s x 87 ho w.heap.size 89 ti _ 1 8 Tryz.underlying87 hi hz0 hz1 hz2 rfl (by decide) v _ (ps.map ptrV) hs hown ⟨g,0,none⟩ ts.length cap (qs.map ptrV) hx (by simp[hqs]) (hown2.cells rfl) (yT qs) (by simp[maxLen];omega) (by omega) hG.size ?_
  intro v3 w4 hown3 hgrow3 hv3
  have hrow:∀k,v.ownBlock=some k->w.heap.size<=k:=fun k hk=>(hK.row h0.lt hk).1
  have hts:∀(j:Nat) (t:Tr),ts[j]? =some t->∃p,qs[j]? =some p/\TrAt (fun k=>Old C w k\/v.ownBlock=some k) W p t:=fun j t hj=>by
   obtain⟨p,hp,hT⟩:=htr2 j t hj
   exact⟨p,hp,hT.mono fun k hk=> .inl (hk.elim (old_sz hwk k) fun h=> .inr (hv k h))⟩
  have hkeep:∀{p:Nat} {t:Tr},TrAt (fun k=>Old C w k\/v.ownBlock=some k) W p t->TrAt (fun k=>Old C w k\/v3.ownBlock=some k) w4 p t:=by
   intro p t hT
   have hT3:=hT.bound.kept (w':=w4) fun k hk hx=>hgrow3.block k hk (fun e=>hx (.inl (.inr e.symm)))
   refine hT3.mono fun k hk=>?_
   rcases hk with hk|hk
   ·exact .inl (.inl hk)
   ·rcases hv3 k hk with h|h
    ·exact .inl (.inr h)
    ·exact .inr h
  have K3:KidsOwn C w w4 v3 (ks++ts):=by
   refine⟨ps++qs,by simp[hps,hqs],by rw[List.map_append,List.length_append];exact hown3,fun j t hj=>?_⟩
   by_cases hlt:j<ks.length
   ·rw[List.getElem?_append_left hlt] at hj
    obtain⟨p,hp,hT⟩:=htr j t hj
    exact⟨p,by rw[List.getElem?_append_left (by omega)];exact hp,hkeep hT⟩
   ·rw[List.getElem?_append_right (by omega)] at hj
    obtain⟨p,hp,hT⟩:=hts _ t hj
    exact⟨p,by rw[List.getElem?_append_right (by omega),hps];exact hp,hkeep hT⟩
  exact h v3 w4 K3 (h0.row hR hgrow3 hrow) (qI hG hgrow3 hrow)
def OneT(x:Option (Res (List Tr))):Prop:=∀ts j,x=some (.ok ts j)->ts.length<=1
theorem zgZ{α:Type}{x:Option (Res α)}{F:α->Nat->Option (Res (List Tr))}(k:∀a j,OneT (F a j)):OneT (andThen x F):=by
 intro b j hb
 cases x with
 |none=>cases hb
 |some y=>cases y with
  |no p=>simp[andThen] at hb
  |ok a j'=>exact k a j' b j hb
theorem zjv{k:Nat}{a:List Tr}(h:a.length<=1):OneT (some (.ok a k)):=fun b j hb=>by cases hb;exact h
theorem stmt_one{C:Ctx}{f i:Nat}:OneT (rd C f .stmt i):=by
 cases f with
 |zero=>intro ts j h;cases h
 |succ f=>
  simp only[rd]
  repeat' first
   |exact zjv (by simp)
   |(refine zgZ fun a j=>?_)
   |split
theorem zbH{C:Ctx}:∀{f i j:Nat} {ts:List Tr},rd C f .stmts i=some (.ok ts j)->i+ts.length<=j:=by
 intro f
 induction f with
 |zero=>intro i j ts h;cases h
 |succ f ih=>
  intro i j ts h
  simp only[rd] at h
  cases hx:rd C f .stmt i with
  |none=>rw[hx] at h;cases h
  |some y=>
   rw[hx] at h
   cases y with
   |no p=>simp[andThen] at h
   |ok us k=>
    have h1:=stmt_one us k hx
    cases us with
    |nil=>simp[andThen] at h;have:=xo C f .stmt i i (Nat.le_refl _) _ _ hx;obtain⟨rfl,rfl⟩:=h;simpa using this
    |cons u l=>
     have h2:=gi hx
     simp only[andThen,List.isEmpty_cons] at h
     cases hy:rd C f .stmts k with
     |none=>rw[hy] at h;simp[andThen] at h
     |some z=>
      rw[hy] at h
      cases z with
      |no p=>simp[andThen] at h
      |ok vs m=>
       simp[andThen] at h
       obtain⟨h5,rfl⟩:=h
       rw[<-h5]
       have:=ih hy
       simp only[List.length_cons,List.length_append] at h1⊢
       omega
theorem zgP(C:Ctx)(n:Nat)(i:Nat)(w:World)(r:Res (List Tr))(hr:rd C n .prog i=some r)(h:Rd C i w):Calls Tryz.prog 43 #[.pointer (some ⟨C.r,0,none⟩)] w (zG C w r (za7 C w)):=by
 have H0:=Lib.hid h
 have HR:=Lib.hid hr
 have hlt:=h.lt
 obtain⟨ti,hi,hz0,hz1,hz2⟩:=info_parts vP
 clear hr h
 go_enter Tryz.func43,Tryz.ntmps43
 go_wp2
 go_loopg [3] n (fun g x wr=>∃ks j rr,KidsOwn C w wr x ks/\Rd C j wr/\Grew C w wr/\g<=n/\ks.length<=j/\rd C g .prog j=some rr/\r=prep ks rr)
 case atStart=>exact⟨[],i,r,ux C w w,H0.out,World.grownBy.refl _ _,Nat.le_refl _,Nat.zero_le _,HR.out,by cases r<;>rfl⟩
 case round=>
  obtain⟨ks,j,rr,hK,hR,hG,hg,hlen,hr,hrr⟩:=hrel
  cases gk with
  |zero=>cases hr
  |succ g=>
   have hjl:=hR.le
   have hll:=hR.len
   have hat:=yC C j wr hR
   simp only[rd] at hr
   have HK:=Lib.hid hK
   have HRd:=Lib.hid hR
   have HG:=Lib.hid hG
   have HRR:=Lib.hid hrr
   clear hK hR hG hrr
   by_cases c1:comesB C.l j ⟨#[118,97,114]⟩=true
   ·rw[if_pos c1] at hr
    by_cases c2:namedB C.l (j+1)=true
    ·simp only[yx,if_pos c2,andThen] at hr
     by_cases c3:comesB C.l (j+1+1) ⟨#[59]⟩=true
     ·simp only[wantR,if_pos c3,andThen] at hr
      have HE:=Lib.hid hr
      clear hr
      go_wp2_with (first|(go_at_call 78;with_reducible refine(hat).mono ?_;rintro e w1 ⟨rfl,hR1,hG1⟩)|(go_at_call 79;with_reducible refine(skip_yes C j ⟨#[118,97,114]⟩ _ hR1 c1).mono ?_;rintro e w2 ⟨rfl,hR2,hG2⟩)|(go_at_call 81;with_reducible refine(name_yes C (j+1) _ hR2 c2).mono ?_;rintro e w3 ⟨rfl,hR3,hG3⟩)|(go_at_call 80;with_reducible refine(leaf_any ⟨0,0,textAt C.l (j+1),0,0,placeOf C.l C.e j⟩ _ _ _ _).mono ?_;rintro e wl ⟨rfl,rfl⟩)|(at_builtin;refine wpList_append_leaf ⟨0,0,textAt C.l (j+1),0,0,placeOf C.l C.e j⟩ _ _ rfl (.tmp 28) (.tmp 34) rfl H0.out hR3 (grown_trans HG.out (grown_trans hG1 (grown_trans hG2 hG3))) (HK.out.grew hlt (grown_trans hG1 (grown_trans hG2 hG3))) (by omega) rfl rfl ?_;intro v5 w5 K5 hR5 hG5)|(go_at_call 82;with_reducible refine(want_at C (j+1+1) ⟨#[59]⟩ _ _ (by simp) hR5 c3).mono ?_;rintro e w6 ⟨rfl,hR6,hG6⟩))
      have hr:=HE.out
      have K6:=K5.grew hlt hG6
      have G6:=grown_trans hG5 hG6
      cases hy:rd C g .prog (j+1+1+1) with
      |none=>rw[hy] at hr;simp[andThen] at hr
      |some y2=>
       rw[hy] at hr
       have HY:=Lib.hid hy
       have HRY:Hid (rr=prep [zJ 0 (textAt C.l (j+1)) 0 0 (placeOf C.l C.e j) []] y2):=by
        show rr=prep [zJ 0 (textAt C.l (j+1)) 0 0 (placeOf C.l C.e j) []] y2
        cases y2<;>simp[andThen,prep] at hr⊢ <;>exact hr.symm
       clear hr hy
       go_roundg g
       case measure=>omega
       case rel=>
        refine⟨ks++[zJ 0 (textAt C.l (j+1)) 0 0 (placeOf C.l C.e j) []],(j+1+1+1),y2,K6,hR6,G6,by omega,by simp;omega,HY.out,?_⟩
        rw[HRR.out,HRY.out]
        cases y2<;>simp[prep]
     ·have c3n:comesB C.l (j+1+1) ⟨#[59]⟩=false:=by simpa using c3
      simp only[wantR,if_neg c3,andThen,Option.some.injEq] at hr
      clear c3
      have hrp:=HRR.out
      rw[<-hr] at hrp
      simp only[prep] at hrp
      subst hrp
      clear hr HRR
      go_wp2_with (first|(go_at_call 78;with_reducible refine(hat).mono ?_;rintro e w1 ⟨rfl,hR1,hG1⟩)|(go_at_call 79;with_reducible refine(skip_yes C j ⟨#[118,97,114]⟩ _ hR1 c1).mono ?_;rintro e w2 ⟨rfl,hR2,hG2⟩)|(go_at_call 81;with_reducible refine(name_yes C (j+1) _ hR2 c2).mono ?_;rintro e w3 ⟨rfl,hR3,hG3⟩)|(go_at_call 80;with_reducible refine(leaf_any ⟨0,0,textAt C.l (j+1),0,0,placeOf C.l C.e j⟩ _ _ _ _).mono ?_;rintro e wl ⟨rfl,rfl⟩)|(at_builtin;refine wpList_append_leaf ⟨0,0,textAt C.l (j+1),0,0,placeOf C.l C.e j⟩ _ _ rfl (.tmp 28) (.tmp 34) rfl H0.out hR3 (grown_trans HG.out (grown_trans hG1 (grown_trans hG2 hG3))) (HK.out.grew hlt (grown_trans hG1 (grown_trans hG2 hG3))) (by omega) rfl rfl ?_;intro v5 w5 K5 hR5 hG5)|(go_at_call 82;with_reducible refine(wantnot_at C (j+1+1) ⟨#[59]⟩ _ _ (by simp) hR5 c3n).mono ?_;rintro e w6 ⟨ch,rfl,hF⟩))
      exact⟨rfl,_,rfl,hF.later hG5⟩
    ·have c2n:namedB C.l (j+1)=false:=by simpa using c2
     simp only[yx,if_neg c2,andThen,Option.some.injEq] at hr
     clear c2
     have hrp:=HRR.out
     rw[<-hr] at hrp
     simp only[prep] at hrp
     subst hrp
     clear hr HRR
     go_wp2_with (first|(go_at_call 78;with_reducible refine(hat).mono ?_;rintro e w1 ⟨rfl,hR1,hG1⟩)|(go_at_call 79;with_reducible refine(skip_yes C j ⟨#[118,97,114]⟩ _ hR1 c1).mono ?_;rintro e w2 ⟨rfl,hR2,hG2⟩)|(go_at_call 81;with_reducible refine(name_no C (j+1) _ hR2 c2n).mono ?_;rintro e w3 ⟨ch,rfl,hF⟩))
     exact⟨rfl,_,rfl,hF.later (grown_trans HG.out (grown_trans hG1 hG2))⟩
   ·rw[if_neg c1] at hr
    have d1:comesB C.l j ⟨#[118,97,114]⟩=false:=by simpa using c1
    clear c1
    by_cases c4:comesB C.l j ⟨#[97,114,114,97,121]⟩=true
    ·rw[if_pos c4] at hr
     by_cases c2:namedB C.l (j+1)=true
     ·simp only[yx,if_pos c2,andThen] at hr
      by_cases c3:comesB C.l (j+1+1) ⟨#[91]⟩=true
      ·simp only[wantR,if_pos c3,andThen] at hr
       by_cases c5:numbB C.l (j+1+1+1)=true
       ·simp only[z6,if_pos c5,andThen] at hr
        by_cases c6:comesB C.l (j+1+1+1+1) ⟨#[93]⟩=true
        ·simp only[if_pos c6,andThen] at hr
         by_cases c7:comesB C.l (j+1+1+1+1+1) ⟨#[59]⟩=true
         ·simp only[if_pos c7,andThen] at hr
          have HE:=Lib.hid hr
          clear hr
          go_wp2_with (first|(go_at_call 78;with_reducible refine(hat).mono ?_;rintro e w1 ⟨rfl,hR1,hG1⟩)|(go_at_call 79;with_reducible refine(skip_not C j ⟨#[118,97,114]⟩ _ hR1 d1).mono ?_;rintro e wv ⟨rfl,hRv,hGv⟩)|(go_at_call 79;with_reducible refine(skip_yes C j ⟨#[97,114,114,97,121]⟩ _ hRv c4).mono ?_;rintro e w2 ⟨rfl,hR2,hG2⟩)|(go_at_call 81;with_reducible refine(name_yes C (j+1) _ hR2 c2).mono ?_;rintro e w3 ⟨rfl,hR3,hG3⟩;have S3:StI C wr j w3.heap.size (w3.heap.size+1) 1 (textAt C.l (j+1)) 0 (placeOf C.l C.e j) (j+1+1) (w3.alloc (Obj.cells #[Value.int IntKind.i64 0,Value.int IntKind.i64 1,Value.string (textAt C.l (j+1)),Value.int IntKind.i64 0,Value.int IntKind.i64 0,Value.int IntKind.i64 (placeOf C.l C.e j)] 50)):=⟨HRd.out,hR3.alloc _,grown_trans (grown_trans hG1 (grown_trans hGv (grown_trans hG2 hG3))) (World.grownBy_alloc _ _ _),xC _ _ _ _ _ _ _ _,(grown_trans hG1 (grown_trans hGv (grown_trans hG2 hG3))).size,by simp,by simp⟩)|(go_at_call 82;with_reducible refine(want_at C (j+1+1) ⟨#[91]⟩ _ _ (by simp) S3.rd c3).mono ?_;rintro e w4 ⟨rfl,hR4,hG4⟩;have S4:=S3.call hR4 hG4)|(go_at_call 83;with_reducible refine(number_yes C (j+1+1+1) _ S4.rd c5).mono ?_;rintro e w5 ⟨rfl,hR5,hG5⟩;have S5:=S4.call hR5 hG5;have zc:=S5.six.c3;have zf:=S5.six.f3)|(go_at_call 82;with_reducible refine(want_at C (j+1+1+1+1) ⟨#[93]⟩ _ _ (by simp) (S5.setNum (numAtT C.l (j+1+1+1))).rd c6).mono ?_;rintro e w6 ⟨rfl,hR6,hG6⟩;have S6:=(S5.setNum (numAtT C.l (j+1+1+1))).call hR6 hG6;have a0:=S6.six.c0;have a1:=S6.six.c1;have a2:=S6.six.c2;have a3:=S6.six.c3;have a4:=S6.six.c4;have a5:=S6.six.c5)|(go_at_call 80;with_reducible refine(leaf_any ⟨0,1,textAt C.l (j+1),numAtT C.l (j+1+1+1),0,placeOf C.l C.e j⟩ _ _ _ _).mono ?_;rintro e wl ⟨rfl,rfl⟩)|(at_builtin;refine wpList_append_leaf ⟨0,1,textAt C.l (j+1),numAtT C.l (j+1+1+1),0,placeOf C.l C.e j⟩ _ _ rfl (.tmp 52) (.tmp 55) rfl H0.out S6.rd (grown_trans HG.out S6.grew) (HK.out.grew hlt S6.grew) (by omega) rfl rfl ?_;intro v7 w7 K7 hR7 hG7)|(go_at_call 82;with_reducible refine(want_at C (j+1+1+1+1+1) ⟨#[59]⟩ _ _ (by simp) hR7 c7).mono ?_;rintro e w8 ⟨rfl,hR8,hG8⟩))
          have hr:=HE.out
          have K8:=K7.grew hlt hG8
          have G8:=grown_trans hG7 hG8
          cases hy:rd C g .prog (j+1+1+1+1+1+1) with
          |none=>rw[hy] at hr;simp[andThen] at hr
          |some y2=>
           rw[hy] at hr
           have HY:=Lib.hid hy
           have HRY:Hid (rr=prep [zJ 1 (textAt C.l (j+1)) (numAtT C.l (j+1+1+1)) 0 (placeOf C.l C.e j) []] y2):=by
            show rr=prep [zJ 1 (textAt C.l (j+1)) (numAtT C.l (j+1+1+1)) 0 (placeOf C.l C.e j) []] y2
            cases y2<;>simp[andThen,prep] at hr⊢ <;>exact hr.symm
           clear hr hy
           go_roundg g
           case measure=>omega
           case rel=>
            refine⟨ks++[zJ 1 (textAt C.l (j+1)) (numAtT C.l (j+1+1+1)) 0 (placeOf C.l C.e j) []],(j+1+1+1+1+1+1),y2,K8,hR8,G8,by omega,by simp;omega,HY.out,?_⟩
            rw[HRR.out,HRY.out]
            cases y2<;>simp[prep]
         ·have c7n:comesB C.l (j+1+1+1+1+1) ⟨#[59]⟩=false:=by simpa using c7
          simp only[wantR,if_neg c7,andThen,Option.some.injEq] at hr
          clear c7
          have hrp:=HRR.out
          rw[<-hr] at hrp
          simp only[prep] at hrp
          subst hrp
          clear hr HRR
          go_wp2_with (first|(go_at_call 78;with_reducible refine(hat).mono ?_;rintro e w1 ⟨rfl,hR1,hG1⟩)|(go_at_call 79;with_reducible refine(skip_not C j ⟨#[118,97,114]⟩ _ hR1 d1).mono ?_;rintro e wv ⟨rfl,hRv,hGv⟩)|(go_at_call 79;with_reducible refine(skip_yes C j ⟨#[97,114,114,97,121]⟩ _ hRv c4).mono ?_;rintro e w2 ⟨rfl,hR2,hG2⟩)|(go_at_call 81;with_reducible refine(name_yes C (j+1) _ hR2 c2).mono ?_;rintro e w3 ⟨rfl,hR3,hG3⟩;have S3:StI C wr j w3.heap.size (w3.heap.size+1) 1 (textAt C.l (j+1)) 0 (placeOf C.l C.e j) (j+1+1) (w3.alloc (Obj.cells #[Value.int IntKind.i64 0,Value.int IntKind.i64 1,Value.string (textAt C.l (j+1)),Value.int IntKind.i64 0,Value.int IntKind.i64 0,Value.int IntKind.i64 (placeOf C.l C.e j)] 50)):=⟨HRd.out,hR3.alloc _,grown_trans (grown_trans hG1 (grown_trans hGv (grown_trans hG2 hG3))) (World.grownBy_alloc _ _ _),xC _ _ _ _ _ _ _ _,(grown_trans hG1 (grown_trans hGv (grown_trans hG2 hG3))).size,by simp,by simp⟩)|(go_at_call 82;with_reducible refine(want_at C (j+1+1) ⟨#[91]⟩ _ _ (by simp) S3.rd c3).mono ?_;rintro e w4 ⟨rfl,hR4,hG4⟩;have S4:=S3.call hR4 hG4)|(go_at_call 83;with_reducible refine(number_yes C (j+1+1+1) _ S4.rd c5).mono ?_;rintro e w5 ⟨rfl,hR5,hG5⟩;have S5:=S4.call hR5 hG5;have zc:=S5.six.c3;have zf:=S5.six.f3)|(go_at_call 82;with_reducible refine(want_at C (j+1+1+1+1) ⟨#[93]⟩ _ _ (by simp) (S5.setNum (numAtT C.l (j+1+1+1))).rd c6).mono ?_;rintro e w6 ⟨rfl,hR6,hG6⟩;have S6:=(S5.setNum (numAtT C.l (j+1+1+1))).call hR6 hG6;have a0:=S6.six.c0;have a1:=S6.six.c1;have a2:=S6.six.c2;have a3:=S6.six.c3;have a4:=S6.six.c4;have a5:=S6.six.c5)|(go_at_call 80;with_reducible refine(leaf_any ⟨0,1,textAt C.l (j+1),numAtT C.l (j+1+1+1),0,placeOf C.l C.e j⟩ _ _ _ _).mono ?_;rintro e wl ⟨rfl,rfl⟩)|(at_builtin;refine wpList_append_leaf ⟨0,1,textAt C.l (j+1),numAtT C.l (j+1+1+1),0,placeOf C.l C.e j⟩ _ _ rfl (.tmp 52) (.tmp 55) rfl H0.out S6.rd (grown_trans HG.out S6.grew) (HK.out.grew hlt S6.grew) (by omega) rfl rfl ?_;intro v7 w7 K7 hR7 hG7)|(go_at_call 82;with_reducible refine(wantnot_at C (j+1+1+1+1+1) ⟨#[59]⟩ _ _ (by simp) hR7 c7n).mono ?_;rintro e w8 ⟨ch,rfl,hF⟩))
          exact⟨rfl,_,rfl,hF.later hG7⟩
        ·have c6n:comesB C.l (j+1+1+1+1) ⟨#[93]⟩=false:=by simpa using c6
         simp only[wantR,if_neg c6,andThen,Option.some.injEq] at hr
         clear c6
         have hrp:=HRR.out
         rw[<-hr] at hrp
         simp only[prep] at hrp
         subst hrp
         clear hr HRR
         go_wp2_with (first|(go_at_call 78;with_reducible refine(hat).mono ?_;rintro e w1 ⟨rfl,hR1,hG1⟩)|(go_at_call 79;with_reducible refine(skip_not C j ⟨#[118,97,114]⟩ _ hR1 d1).mono ?_;rintro e wv ⟨rfl,hRv,hGv⟩)|(go_at_call 79;with_reducible refine(skip_yes C j ⟨#[97,114,114,97,121]⟩ _ hRv c4).mono ?_;rintro e w2 ⟨rfl,hR2,hG2⟩)|(go_at_call 81;with_reducible refine(name_yes C (j+1) _ hR2 c2).mono ?_;rintro e w3 ⟨rfl,hR3,hG3⟩;have S3:StI C wr j w3.heap.size (w3.heap.size+1) 1 (textAt C.l (j+1)) 0 (placeOf C.l C.e j) (j+1+1) (w3.alloc (Obj.cells #[Value.int IntKind.i64 0,Value.int IntKind.i64 1,Value.string (textAt C.l (j+1)),Value.int IntKind.i64 0,Value.int IntKind.i64 0,Value.int IntKind.i64 (placeOf C.l C.e j)] 50)):=⟨HRd.out,hR3.alloc _,grown_trans (grown_trans hG1 (grown_trans hGv (grown_trans hG2 hG3))) (World.grownBy_alloc _ _ _),xC _ _ _ _ _ _ _ _,(grown_trans hG1 (grown_trans hGv (grown_trans hG2 hG3))).size,by simp,by simp⟩)|(go_at_call 82;with_reducible refine(want_at C (j+1+1) ⟨#[91]⟩ _ _ (by simp) S3.rd c3).mono ?_;rintro e w4 ⟨rfl,hR4,hG4⟩;have S4:=S3.call hR4 hG4)|(go_at_call 83;with_reducible refine(number_yes C (j+1+1+1) _ S4.rd c5).mono ?_;rintro e w5 ⟨rfl,hR5,hG5⟩;have S5:=S4.call hR5 hG5;have zc:=S5.six.c3;have zf:=S5.six.f3)|(go_at_call 82;with_reducible refine(wantnot_at C (j+1+1+1+1) ⟨#[93]⟩ _ _ (by simp) (S5.setNum (numAtT C.l (j+1+1+1))).rd c6n).mono ?_;rintro e w6 ⟨ch,rfl,hF⟩))
         exact⟨rfl,_,rfl,hF.later (grown_trans HG.out (S5.setNum (numAtT C.l (j+1+1+1))).grew)⟩
       ·have c5n:numbB C.l (j+1+1+1)=false:=by simpa using c5
        simp only[z6,if_neg c5,andThen,Option.some.injEq] at hr
        clear c5
        have hrp:=HRR.out
        rw[<-hr] at hrp
        simp only[prep] at hrp
        subst hrp
        clear hr HRR
        go_wp2_with (first|(go_at_call 78;with_reducible refine(hat).mono ?_;rintro e w1 ⟨rfl,hR1,hG1⟩)|(go_at_call 79;with_reducible refine(skip_not C j ⟨#[118,97,114]⟩ _ hR1 d1).mono ?_;rintro e wv ⟨rfl,hRv,hGv⟩)|(go_at_call 79;with_reducible refine(skip_yes C j ⟨#[97,114,114,97,121]⟩ _ hRv c4).mono ?_;rintro e w2 ⟨rfl,hR2,hG2⟩)|(go_at_call 81;with_reducible refine(name_yes C (j+1) _ hR2 c2).mono ?_;rintro e w3 ⟨rfl,hR3,hG3⟩;have S3:StI C wr j w3.heap.size (w3.heap.size+1) 1 (textAt C.l (j+1)) 0 (placeOf C.l C.e j) (j+1+1) (w3.alloc (Obj.cells #[Value.int IntKind.i64 0,Value.int IntKind.i64 1,Value.string (textAt C.l (j+1)),Value.int IntKind.i64 0,Value.int IntKind.i64 0,Value.int IntKind.i64 (placeOf C.l C.e j)] 50)):=⟨HRd.out,hR3.alloc _,grown_trans (grown_trans hG1 (grown_trans hGv (grown_trans hG2 hG3))) (World.grownBy_alloc _ _ _),xC _ _ _ _ _ _ _ _,(grown_trans hG1 (grown_trans hGv (grown_trans hG2 hG3))).size,by simp,by simp⟩)|(go_at_call 82;with_reducible refine(want_at C (j+1+1) ⟨#[91]⟩ _ _ (by simp) S3.rd c3).mono ?_;rintro e w4 ⟨rfl,hR4,hG4⟩;have S4:=S3.call hR4 hG4)|(go_at_call 83;with_reducible refine(number_no C (j+1+1+1) _ S4.rd c5n).mono ?_;rintro e w5 ⟨ch,rfl,hF⟩))
        exact⟨rfl,_,rfl,hF.later (grown_trans HG.out S4.grew)⟩
      ·have c3n:comesB C.l (j+1+1) ⟨#[91]⟩=false:=by simpa using c3
       simp only[wantR,if_neg c3,andThen,Option.some.injEq] at hr
       clear c3
       have hrp:=HRR.out
       rw[<-hr] at hrp
       simp only[prep] at hrp
       subst hrp
       clear hr HRR
       go_wp2_with (first|(go_at_call 78;with_reducible refine(hat).mono ?_;rintro e w1 ⟨rfl,hR1,hG1⟩)|(go_at_call 79;with_reducible refine(skip_not C j ⟨#[118,97,114]⟩ _ hR1 d1).mono ?_;rintro e wv ⟨rfl,hRv,hGv⟩)|(go_at_call 79;with_reducible refine(skip_yes C j ⟨#[97,114,114,97,121]⟩ _ hRv c4).mono ?_;rintro e w2 ⟨rfl,hR2,hG2⟩)|(go_at_call 81;with_reducible refine(name_yes C (j+1) _ hR2 c2).mono ?_;rintro e w3 ⟨rfl,hR3,hG3⟩;have S3:StI C wr j w3.heap.size (w3.heap.size+1) 1 (textAt C.l (j+1)) 0 (placeOf C.l C.e j) (j+1+1) (w3.alloc (Obj.cells #[Value.int IntKind.i64 0,Value.int IntKind.i64 1,Value.string (textAt C.l (j+1)),Value.int IntKind.i64 0,Value.int IntKind.i64 0,Value.int IntKind.i64 (placeOf C.l C.e j)] 50)):=⟨HRd.out,hR3.alloc _,grown_trans (grown_trans hG1 (grown_trans hGv (grown_trans hG2 hG3))) (World.grownBy_alloc _ _ _),xC _ _ _ _ _ _ _ _,(grown_trans hG1 (grown_trans hGv (grown_trans hG2 hG3))).size,by simp,by simp⟩)|(go_at_call 82;with_reducible refine(wantnot_at C (j+1+1) ⟨#[91]⟩ _ _ (by simp) S3.rd c3n).mono ?_;rintro e w4 ⟨ch,rfl,hF⟩))
       exact⟨rfl,_,rfl,hF.later (grown_trans HG.out S3.grew)⟩
     ·have c2n:namedB C.l (j+1)=false:=by simpa using c2
      simp only[yx,if_neg c2,andThen,Option.some.injEq] at hr
      clear c2
      have hrp:=HRR.out
      rw[<-hr] at hrp
      simp only[prep] at hrp
      subst hrp
      clear hr HRR
      go_wp2_with (first|(go_at_call 78;with_reducible refine(hat).mono ?_;rintro e w1 ⟨rfl,hR1,hG1⟩)|(go_at_call 79;with_reducible refine(skip_not C j ⟨#[118,97,114]⟩ _ hR1 d1).mono ?_;rintro e wv ⟨rfl,hRv,hGv⟩)|(go_at_call 79;with_reducible refine(skip_yes C j ⟨#[97,114,114,97,121]⟩ _ hRv c4).mono ?_;rintro e w2 ⟨rfl,hR2,hG2⟩)|(go_at_call 81;with_reducible refine(name_no C (j+1) _ hR2 c2n).mono ?_;rintro e w3 ⟨ch,rfl,hF⟩))
      exact⟨rfl,_,rfl,hF.later (grown_trans HG.out (grown_trans hG1 (grown_trans hGv hG2)))⟩
    ·rw[if_neg c4] at hr
     have d4:comesB C.l j ⟨#[97,114,114,97,121]⟩=false:=by simpa using c4
     clear c4
     have hSt:=(stmts_all C g).2.2
     cases hx:rd C g .stmts j with
     |none=>rw[hx] at hr;cases hr
     |some y=>
      rw[hx] at hr
      have hS:=fun W a=>hSt j W y hx a
      clear hSt
      cases y with
      |no p=>
       simp only[andThen,Option.some.injEq] at hr
       have hS:=fun W a=>zE (hS W a)
       have hrp:=HRR.out
       rw[<-hr] at hrp
       simp only[prep] at hrp
       subst hrp
       clear hr HRR hx
       go_wp2_with (first|(go_at_call 78;with_reducible refine(hat).mono ?_;rintro e w1 ⟨rfl,hR1,hG1⟩)|(go_at_call 79;with_reducible refine(skip_not C j ⟨#[118,97,114]⟩ _ hR1 d1).mono ?_;rintro e wv ⟨rfl,hRv,hGv⟩)|(go_at_call 79;with_reducible refine(skip_not C j ⟨#[97,114,114,97,121]⟩ _ hRv d4).mono ?_;rintro e w2 ⟨rfl,hR2,hG2⟩)|(go_at_call 84;with_reducible refine(hS _ hR2).mono ?_;rintro e w4 ⟨ch,rfl,hF⟩))
       exact⟨rfl,_,rfl,hF.later (grown_trans HG.out (grown_trans hG1 (grown_trans hGv hG2)))⟩
      |ok ts j2=>
       have hS:=fun W a=>vj (hS W a)
       have hcnt:=zbH hx
       have HE:=Lib.hid hr
       clear hr hx
       go_wp2_with (first|(go_at_call 78;with_reducible refine(hat).mono ?_;rintro e w1 ⟨rfl,hR1,hG1⟩)|(go_at_call 79;with_reducible refine(skip_not C j ⟨#[118,97,114]⟩ _ hR1 d1).mono ?_;rintro e wv ⟨rfl,hRv,hGv⟩)|(go_at_call 79;with_reducible refine(skip_not C j ⟨#[97,114,114,97,121]⟩ _ hRv d4).mono ?_;rintro e w2 ⟨rfl,hR2,hG2⟩)|(go_at_call 84;with_reducible refine(hS _ hR2).mono ?_;rintro e w4 ⟨v4,rfl,K4,hR4,hG4⟩)|(at_builtin;refine wpList_append_kids (wk:=w2) rfl (.tmp 8) (.tmp 10) rfl H0.out hR4 (grown_trans HG.out (grown_trans hG1 (grown_trans hGv (grown_trans hG2 hG4)))) (HK.out.grew hlt (grown_trans hG1 (grown_trans hGv (grown_trans hG2 hG4)))) (fun k hk=>((HK.out.grew hlt (grown_trans hG1 (grown_trans hGv hG2))).row hlt hk).2.2) (grown_trans HG.out (grown_trans hG1 (grown_trans hGv hG2))).size K4 (by have:=hR4.le;omega) rfl rfl ?_;intro v5 w5 K5 hR5 hG5))
       have hr:=HE.out
       simp only[andThen] at hr
       have HK5:=Lib.hid K5
       have HR5:=Lib.hid hR5
       have HG5:=Lib.hid hG5
       obtain⟨⟨b0,cp,g0,q0,_,hcap,_,_⟩,q1,_,_,hle2,hlen2,_,_,_⟩:=hR5
       have hF5:=fun m=>vg C j2 _ (HR5.out.drewN m)
       clear K5 hG5
       by_cases hlt2:j2<C.l.length
       ·rw[if_pos hlt2] at hr
        have hrp:=HRR.out
        rw[<-Option.some.inj hr] at hrp
        simp only[prep] at hrp
        subst hrp
        have hdd:decide ((j2:Int)<(C.l.length:Int))=true:=by simp;omega
        clear hr HRR HE
        go_quiet (fail)
        go_wp2_with (go_at_call 85;refine(hF5 _).mono ?_;rintro e w' ⟨ch,rfl,hF2⟩)
        exact⟨rfl,_,rfl,hF2.later (grown_trans HG5.out (Grew.drewN w5 _))⟩
       ·rw[if_neg hlt2] at hr
        have hrp:=HRR.out
        rw[<-Option.some.inj hr] at hrp
        simp only[prep] at hrp
        subst hrp
        have hdd:decide ((j2:Int)<(C.l.length:Int))=false:=by simp;omega
        clear hr HRR HE
        go_quiet (fail)
        go_wp2_with fail
        go_ret
        exact⟨_,j2,rfl,HK5.out.grew hlt (Grew.drewN w5 _),HR5.out.drewN _,grown_trans HG5.out (Grew.drewN w5 _)⟩
def Le{α:Type}(x y:Option (Res α)):Prop:=∀r,x=some r->y=some r
theorem Le.refl{α:Type}(x:Option (Res α)):Le x x:=fun _ h=>h
theorem ui{α β:Type}{x y:Option (Res α)}{F G:α->Nat->Option (Res β)}(h:Le x y)(k:∀a j,Le (F a j) (G a j)):Le (andThen x F) (andThen y G):=by
 intro r hr
 cases x with
 |none=>cases hr
 |some z=>
  rw[h z rfl]
  cases z with
  |no p=>exact hr
  |ok a j=>exact k a j r hr
theorem wD{α:Type}{c:Prop}[Decidable c]{x y x' y':Option (Res α)}(h:c->Le x x')(k:¬c->Le y y'):Le (if c then x else y) (if c then x' else y'):=by
 by_cases hc:c
 ·rw[if_pos hc,if_pos hc];exact h hc
 ·rw[if_neg hc,if_neg hc];exact k hc
theorem za5{t:Tr->Option (Res (List Tr))}{t':Tr->Option (Res (List Tr))}(ts:List Tr)(h:∀x,Le (t x) (t' x)):Le (match ts with|[x]=>t x|_=>none) (match ts with|[x]=>t' x|_=>none):=by
 match ts with
 |[]=>exact Le.refl _
 |[x]=>exact h x
 |_::_::_=>exact Le.refl _
theorem zis(C:Ctx):∀(f:Nat) (nt:NT) (i:Nat),Le (rd C f nt i) (rd C (f+1) nt i):=by
 intro f
 induction f with
 |zero=>intro nt i r h;cases h
 |succ f ih=>
  intro nt i
  cases nt with
  |rest k left=>
   rw[rd,rd]
   cases opAt k C.l i with
   |none=>exact Le.refl _
   |some op=>exact ui (ih _ _) fun ts j=>za5 ts fun x=>wD (fun _=>Le.refl _) fun _=>ih _ _
  |row k=>rw[rd,rd];exact wD (fun _=>ih _ _) fun _=>ui (ih _ _) fun ts j=>za5 ts fun x=>ih _ _
  |_=>
   rw[rd,rd]
   repeat' first
    |exact Le.refl _
    |exact ih _ _
    |(refine ui ?_ fun a j=>?_)
    |(refine wD (fun _=>?_) fun _=>?_)
theorem zjr(C:Ctx)(f d:Nat)(nt:NT)(i:Nat):Le (rd C f nt i) (rd C (f+d) nt i):=by
 induction d with
 |zero=>exact Le.refl _
 |succ d ih=>exact fun r h=>zis C (f+d) nt i r (ih r h)
theorem zdp(C:Ctx){f f':Nat}(hf:f<=f')(nt:NT)(i:Nat):Le (rd C f nt i) (rd C f' nt i):=by
 obtain⟨d,rfl⟩:=Nat.exists_eq_add_of_le hf
 exact zjr C f d nt i
theorem jQ(C:Ctx){f f':Nat}{nt:NT}{i:Nat}{r r':Res (List Tr)}(h:rd C f nt i=some r)(h':rd C f' nt i=some r'):r=r':=by
 have h1:=zdp C (Nat.le_max_left f f') nt i r h
 have h2:=zdp C (Nat.le_max_right f f') nt i r' h'
 rw[h1] at h2
 exact Option.some.inj h2
def Mon{α:Type}(X:Nat->Option (Res α)):Prop:=∀f f',f<=f'->Le (X f) (X f')
def Ex{α:Type}(X:Nat->Option (Res α)):Prop:=∃f r,X f=some r
theorem yw{α:Type}(x:Option (Res α)):Mon fun _=>x:=fun _ _ _=>Le.refl _
theorem qU(C:Ctx)(nt:NT)(i:Nat):Mon fun f=>rd C f nt i:=fun _ _ h=>zdp C h nt i
theorem zg7{α β:Type}{X:Nat->Option (Res α)}{F:Nat->α->Nat->Option (Res β)}(h:Mon X)(k:∀a j,Mon fun f=>F f a j):Mon fun f=>andThen (X f) (F f):=fun f f' hf=>ui (h f f' hf) fun a j=>k a j f f' hf
theorem zcG{α:Type}{c:Prop}[Decidable c]{X Y:Nat->Option (Res α)}(h:c->Mon X)(k:¬c->Mon Y):Mon fun f=>if c then X f else Y f:=fun f f' hf=>wD (fun hc=>h hc f f' hf) (fun hc=>k hc f f' hf)
theorem zy{α:Type}(r:Res α):Ex fun _=>some r:=⟨0,r,rfl⟩
theorem ye{α:Type}{c:Prop}[Decidable c]{X Y:Nat->Option (Res α)}(h:c->Ex X)(k:¬c->Ex Y):Ex fun f=>if c then X f else Y f:=by
 by_cases hc:c
 ·simp only[if_pos hc];exact h hc
 ·simp only[if_neg hc];exact k hc
theorem ex_then{α β:Type}{X:Nat->Option (Res α)}{F:Nat->α->Nat->Option (Res β)}(hX:Ex X)(mX:Mon X)(mF:∀a j,Mon fun f=>F f a j)(hF:∀f a j,X f=some (.ok a j)->Ex fun f=>F f a j):Ex fun f=>andThen (X f) (F f):=by
 obtain⟨f0,r0,h0⟩:=hX
 cases r0 with
 |no p=>exact⟨f0, .no p,by simp only[h0];rfl⟩
 |ok a j=>
  obtain⟨f1,r1,h1⟩:=hF f0 a j h0
  refine⟨max f0 f1,r1,?_⟩
  have e:=mX f0 (max f0 f1) (Nat.le_max_left _ _) _ h0
  simp only[e]
  exact mF a j f1 (max f0 f1) (Nat.le_max_right _ _) _ h1
theorem yq(C:Ctx)(s:ByteArray)(i:Nat):Ex fun _=>wantR C s i:=⟨0,_,rfl⟩
theorem gD(C:Ctx)(i:Nat):Ex fun _=>yx C i:=⟨0,_,rfl⟩
theorem zaj(C:Ctx)(i:Nat):Ex fun _=>z6 C i:=⟨0,_,rfl⟩
theorem zi2{C:Ctx}{nt:NT}{i:Nat}(h:Ex fun f=>rd C (f+1) nt i):Ex fun f=>rd C f nt i:=let ⟨f,r,h⟩:=h;⟨f+1,r,h⟩
def rank:NT->Nat
 | .row k=>2*(6-k)+3
 | .rest _ _=>0
 | .unary=>2
 | .atom=>1
 | .stmt=>16
 | .stmts=>17
 | .block=>18
 | .prog=>18
def meas(C:Ctx)(nt:NT)(i:Nat):Nat:=(C.l.length-i)*20+rank nt
theorem zdH{C:Ctx}{nt nt':NT}{i j:Nat}(h:i<j)(hi:i<C.l.length)(hr:rank nt'<20):meas C nt' j<meas C nt i:=by
 unfold meas
 have:(C.l.length-j)+1<=C.l.length-i:=by omega
 omega
theorem ze6{C:Ctx}{nt nt':NT}{i j:Nat}(h:i<=j)(hr:rank nt'<rank nt):meas C nt' j<meas C nt i:=by
 unfold meas
 have:(C.l.length-j)<=C.l.length-i:=by omega
 omega
theorem zim{C:Ctx}{f i j:Nat}{t:Tr}{l:List Tr}(h:rd C f .stmt i=some (.ok (t::l) j)):i<C.l.length:=by
 rcases Nat.lt_or_ge i C.l.length with h1|h1
 ·exact h1
 ·exfalso
  have hn:C.l[i]? =none:=List.getElem?_eq_none h1
  cases f with
  |zero=>cases h
  |succ f=>simp[rd,namedB,comesB,hn] at h
theorem zcF{k:Nat}{l:List Item}{i:Nat}{op:Int}(h:opAt k l i=some op):i<l.length:=by
 unfold opAt at h
 cases hx:l[i]? with
 |none=>rw[hx] at h;cases h
 |some x=>exact(List.getElem?_eq_some_iff.1 hx).1
theorem kK(C:Ctx):∀(f:Nat) (nt:NT) (i j:Nat) (ts:List Tr),(match nt with| .row _| .rest _ _| .unary| .atom=>True|_=>False)->rd C f nt i=some (.ok ts j)->∃t,ts=[t]:=by
 intro f
 induction f with
 |zero=>intro nt i j ts _ h;cases h
 |succ f ih=>
  have th:∀{α:Type} {x:Option (Res α)} {F:α->Nat->Option (Res (List Tr))} {ts:List Tr} {j:Nat},andThen x F=some (.ok ts j)->∃a k,x=some (.ok a k)/\F a k=some (.ok ts j):=by
   intro α x F ts j h
   cases x with
   |none=>cases h
   |some y=>cases y with
    |no p=>simp[andThen] at h
    |ok a k=>exact⟨a,k,rfl,h⟩
  intro nt i j ts hnt h
  cases nt with
  |row k=>
   simp only[rd] at h
   split at h
   ·exact ih _ _ _ _ trivial h
   ·obtain⟨a,m,h1,h2⟩:=th h
    split at h2
    ·exact ih _ _ _ _ trivial h2
    ·cases h2
  |rest k left=>
   simp only[rd] at h
   split at h
   ·cases h;exact⟨_,rfl⟩
   ·obtain⟨a,m,h1,h2⟩:=th h
    split at h2
    ·split at h2
     ·cases h2;exact⟨_,rfl⟩
     ·exact ih _ _ _ _ trivial h2
    ·cases h2
  |unary=>
   simp only[rd] at h
   split at h
   ·obtain⟨a,m,h1,h2⟩:=th h;cases h2;exact⟨_,rfl⟩
   ·split at h
    ·obtain⟨a,m,h1,h2⟩:=th h;cases h2;exact⟨_,rfl⟩
    ·exact ih _ _ _ _ trivial h
  |atom=>
   simp only[rd] at h
   split at h
   ·cases h;exact⟨_,rfl⟩
   ·split at h
    ·cases h;exact⟨_,rfl⟩
    ·split at h
     ·obtain⟨a,m,h1,h2⟩:=th h
      obtain⟨b,m2,h3,h4⟩:=th h2
      cases h4
      exact ih _ _ _ _ trivial h1
     ·split at h
      ·split at h
       ·obtain⟨a,m,h1,h2⟩:=th h
        obtain⟨b,m2,h3,h4⟩:=th h2
        cases h4;exact⟨_,rfl⟩
       ·cases h;exact⟨_,rfl⟩
      ·obtain⟨a,m,h1,h2⟩:=th h;cases h2;exact⟨_,rfl⟩
  |stmt=>cases hnt
  |stmts=>cases hnt
  |block=>cases hnt
  |prog=>cases hnt
theorem mon_one{ts:List Tr}{X:Nat->Tr->Option (Res (List Tr))}(h:∀x,Mon fun f=>X f x):Mon fun f=>match ts with|[x]=>X f x|_=>none:=fun f f' hf=>za5 ts fun x=>h x f f' hf
theorem zq7{p:Prop}(h:p:=by repeat' first|exact qU C _ _|exact yw _|(refine zg7 ?_ fun _ _=>?_)|(refine zcG (fun _=>?_) fun _=>?_)):p:=h
theorem zcE(C:Ctx):∀(N:Nat) (nt:NT) (i:Nat),meas C nt i<N->Ex fun f=>rd C f nt i:=by
 intro N
 induction N with
 |zero=>intro nt i h;omega
 |succ N ih=>
  intro nt i hN
  have go:∀{nt':NT} {j:Nat},meas C nt' j<meas C nt i->Ex fun f=>rd C f nt' j:=fun h=>ih _ _ (by omega)
  have later:∀{nt':NT} {j:Nat},i<j->i<C.l.length->rank nt'<20->Ex fun f=>rd C f nt' j:=fun h1 h2 h3=>go (zdH h1 h2 h3)
  have same:∀{nt':NT} {j:Nat},i<=j->rank nt'<rank nt->Ex fun f=>rd C f nt' j:=fun h1 h2=>go (ze6 h1 h2)
  apply zi2
  cases nt with
  |row k=>
   simp only[rd]
   refine ye (fun h=>same (Nat.le_refl _) (by simp[rank])) fun h=>?_
   refine ex_then (same (Nat.le_refl _) (by simp[rank];omega)) (qU C _ _) (fun a j=>mon_one fun x=>qU C _ _) fun f a j hx=>?_
   obtain⟨t,rfl⟩:=kK C f _ _ _ _ trivial hx
   exact same (xo C f _ i i (Nat.le_refl _) _ _ hx) (by simp[rank])
  |rest k left=>
   simp only[rd]
   cases hop:opAt k C.l i with
   |none=>exact zy _
   |some op=>
    have hi:=zcF hop
    refine ex_then (later (Nat.lt_succ_self i) hi (by simp[rank];omega)) (qU C _ _) (fun a j=>mon_one fun x=>zcG (fun _=>yw _) fun _=>qU C _ _) fun f a j hx=>?_
    obtain⟨t,rfl⟩:=kK C f _ _ _ _ trivial hx
    have:=xo C f _ (i+1) (i+1) (Nat.le_refl _) _ _ hx
    exact ye (fun _=>zy _) fun _=>later (by omega) hi (by simp[rank])
  |unary=>
   simp only[rd]
   refine ye (fun h=>ex_then (later (Nat.lt_succ_self i) (comes_lt h) (by simp[rank])) (qU C _ _) (fun a j=>yw _) fun f a j hx=>zy _) fun _=>?_
   refine ye (fun h=>ex_then (later (Nat.lt_succ_self i) (comes_lt h) (by simp[rank])) (qU C _ _) (fun a j=>yw _) fun f a j hx=>zy _) fun _=>?_
   exact same (Nat.le_refl _) (by simp[rank])
  |atom=>
   simp only[rd]
   refine ye (fun _=>zy _) fun _=>ye (fun _=>zy _) fun _=>ye (fun h=>?_) fun _=>ye (fun h=>ye (fun h2=>?_) fun _=>zy _) fun _=>?_
   ·exact ex_then (later (Nat.lt_succ_self i) (comes_lt h) (by simp[rank])) (qU C _ _) (fun a j=>yw _) fun f a j hx=>ex_then (yq ..) (yw _) (fun _ _=>yw _) fun _ _ _ _=>zy _
   ·exact ex_then (later (by omega) (named_lt h) (by simp[rank])) (qU C _ _) (fun a j=>yw _) fun f a j hx=>ex_then (yq ..) (yw _) (fun _ _=>yw _) fun _ _ _ _=>zy _
   ·exact ex_then (zaj ..) (yw _) (fun _ _=>yw _) fun _ _ _ _=>zy _
  |stmt=>
   simp only[rd]
   refine ye (fun h=>ye (fun h2=>?_) fun _=>?_) fun _=>ye (fun h=>?_) fun _=>ye (fun h=>?_) fun _=>ye (fun h=>?_) fun _=>ye (fun h=>?_) fun _=>ye (fun h=>?_) fun _=>zy _
   ·have hi:=(by first|exact named_lt h|exact comes_lt h:i<C.l.length)
    refine ex_then (later (by omega) hi (by simp[rank])) zq7 (fun _ _=>zq7) fun f1 a1 j1 hx1=>?_
    have hu1:=xo C f1 _ (i+2) (i+2) (Nat.le_refl _) _ _ hx1
    refine ex_then (yq ..) zq7 (fun _ _=>zq7) fun f2 a2 j2 hx2=>?_
    have hu2:=up_want (C:=C) (Nat.le_refl j1) _ _ hx2
    refine ex_then (yq ..) zq7 (fun _ _=>zq7) fun f3 a3 j3 hx3=>?_
    have hu3:=up_want (C:=C) (Nat.le_refl j2) _ _ hx3
    refine ex_then (later (by omega) hi (by simp[rank])) zq7 (fun _ _=>zq7) fun f4 a4 j4 hx4=>?_
    have hu4:=xo C f4 _ j3 j3 (Nat.le_refl _) _ _ hx4
    refine ex_then (yq ..) zq7 (fun _ _=>zq7) fun f5 a5 j5 hx5=>?_
    have hu5:=up_want (C:=C) (Nat.le_refl j4) _ _ hx5
    exact zy _
   ·have hi:=(by first|exact named_lt h|exact comes_lt h:i<C.l.length)
    refine ex_then (yq ..) zq7 (fun _ _=>zq7) fun f1 a1 j1 hx1=>?_
    have hu1:=up_want (C:=C) (Nat.le_refl (i+1)) _ _ hx1
    refine ex_then (later (by omega) hi (by simp[rank])) zq7 (fun _ _=>zq7) fun f2 a2 j2 hx2=>?_
    have hu2:=xo C f2 _ j1 j1 (Nat.le_refl _) _ _ hx2
    refine ex_then (yq ..) zq7 (fun _ _=>zq7) fun f3 a3 j3 hx3=>?_
    have hu3:=up_want (C:=C) (Nat.le_refl j2) _ _ hx3
    exact zy _
   ·have hi:=(by first|exact named_lt h|exact comes_lt h:i<C.l.length)
    refine ex_then (gD ..) zq7 (fun _ _=>zq7) fun f1 a1 j1 hx1=>?_
    have hu1:=up_name (C:=C) (Nat.le_refl (i+1)) _ _ hx1
    refine ex_then (yq ..) zq7 (fun _ _=>zq7) fun f2 a2 j2 hx2=>?_
    have hu2:=up_want (C:=C) (Nat.le_refl j1) _ _ hx2
    exact zy _
   ·have hi:=(by first|exact named_lt h|exact comes_lt h:i<C.l.length)
    refine ex_then (later (by omega) hi (by simp[rank])) zq7 (fun _ _=>zq7) fun f1 a1 j1 hx1=>?_
    have hu1:=xo C f1 _ (i+1) (i+1) (Nat.le_refl _) _ _ hx1
    refine ex_then (yq ..) zq7 (fun _ _=>zq7) fun f2 a2 j2 hx2=>?_
    have hu2:=up_want (C:=C) (Nat.le_refl j1) _ _ hx2
    exact zy _
   ·have hi:=(by first|exact named_lt h|exact comes_lt h:i<C.l.length)
    refine ex_then (yq ..) zq7 (fun _ _=>zq7) fun f1 a1 j1 hx1=>?_
    have hu1:=up_want (C:=C) (Nat.le_refl (i+1)) _ _ hx1
    exact zy _
   ·have hi:=(by first|exact named_lt h|exact comes_lt h:i<C.l.length)
    refine ex_then (later (by omega) hi (by simp[rank])) zq7 (fun _ _=>zq7) fun f1 a1 j1 hx1=>?_
    have hu1:=xo C f1 _ (i+1) (i+1) (Nat.le_refl _) _ _ hx1
    refine ex_then (later (by omega) hi (by simp[rank])) zq7 (fun _ _=>zq7) fun f2 a2 j2 hx2=>?_
    have hu2:=xo C f2 _ j1 j1 (Nat.le_refl _) _ _ hx2
    refine ye (fun _=>?_) fun _=>zy _
    refine ex_then (later (by omega) hi (by simp[rank])) zq7 (fun _ _=>zq7) fun f3 a3 j3 hx3=>?_
    have hu3:=xo C f3 _ (j2+1) (j2+1) (Nat.le_refl _) _ _ hx3
    exact zy _
   ·have hi:=(by first|exact named_lt h|exact comes_lt h:i<C.l.length)
    refine ex_then (later (by omega) hi (by simp[rank])) zq7 (fun _ _=>zq7) fun f1 a1 j1 hx1=>?_
    have hu1:=xo C f1 _ (i+1) (i+1) (Nat.le_refl _) _ _ hx1
    refine ex_then (later (by omega) hi (by simp[rank])) zq7 (fun _ _=>zq7) fun f2 a2 j2 hx2=>?_
    have hu2:=xo C f2 _ j1 j1 (Nat.le_refl _) _ _ hx2
    exact zy _
  |stmts=>
   simp only[rd]
   refine ex_then (same (Nat.le_refl _) (by simp[rank])) zq7 (fun _ _=>zq7) fun f1 a1 j1 hx1=>?_
   cases a1 with
   |nil=>exact zy _
   |cons u l=>
    have h1:=gi hx1
    have h2:=zim hx1
    simp only[List.isEmpty_cons]
    refine ye (fun h=>by cases h) fun _=>?_
    refine ex_then (later (by omega) h2 (by simp[rank])) zq7 (fun _ _=>zq7) fun f2 a2 j2 hx2=>?_
    have hu2:=xo C f2 _ j1 j1 (Nat.le_refl _) _ _ hx2
    exact zy _
  |block=>
   simp only[rd]
   by_cases hi:i<C.l.length
   ·skip
    refine ex_then (yq ..) zq7 (fun _ _=>zq7) fun f1 a1 j1 hx1=>?_
    have hu1:=up_want (C:=C) (Nat.le_refl i) _ _ hx1
    have hj1:i<j1:=by
     unfold wantR at hx1
     split at hx1
     ·cases hx1;omega
     ·cases hx1
    refine ex_then (later (by omega) hi (by simp[rank])) zq7 (fun _ _=>zq7) fun f2 a2 j2 hx2=>?_
    have hu2:=xo C f2 _ j1 j1 (Nat.le_refl _) _ _ hx2
    refine ex_then (yq ..) zq7 (fun _ _=>zq7) fun f3 a3 j3 hx3=>?_
    have hu3:=up_want (C:=C) (Nat.le_refl j2) _ _ hx3
    exact zy _
   ·have hn:C.l[i]? =none:=List.getElem?_eq_none (by omega)
    simp only[wantR,comesB,hn,andThen]
    exact zy _
  |prog=>
   simp only[rd]
   refine ye (fun h=>?_) fun _=>ye (fun h=>?_) fun _=>?_
   ·have hi:=(by first|exact named_lt h|exact comes_lt h:i<C.l.length)
    refine ex_then (gD ..) zq7 (fun _ _=>zq7) fun f1 a1 j1 hx1=>?_
    have hu1:=up_name (C:=C) (Nat.le_refl (i+1)) _ _ hx1
    refine ex_then (yq ..) zq7 (fun _ _=>zq7) fun f2 a2 j2 hx2=>?_
    have hu2:=up_want (C:=C) (Nat.le_refl j1) _ _ hx2
    refine ex_then (later (by omega) hi (by simp[rank])) zq7 (fun _ _=>zq7) fun f3 a3 j3 hx3=>?_
    have hu3:=xo C f3 _ j2 j2 (Nat.le_refl _) _ _ hx3
    exact zy _
   ·have hi:=(by first|exact named_lt h|exact comes_lt h:i<C.l.length)
    refine ex_then (gD ..) zq7 (fun _ _=>zq7) fun f1 a1 j1 hx1=>?_
    have hu1:=up_name (C:=C) (Nat.le_refl (i+1)) _ _ hx1
    refine ex_then (yq ..) zq7 (fun _ _=>zq7) fun f2 a2 j2 hx2=>?_
    have hu2:=up_want (C:=C) (Nat.le_refl j1) _ _ hx2
    refine ex_then (zaj ..) zq7 (fun _ _=>zq7) fun f3 a3 j3 hx3=>?_
    have hu3:=up_number (C:=C) (Nat.le_refl j2) _ _ hx3
    refine ex_then (yq ..) zq7 (fun _ _=>zq7) fun f4 a4 j4 hx4=>?_
    have hu4:=up_want (C:=C) (Nat.le_refl j3) _ _ hx4
    refine ex_then (yq ..) zq7 (fun _ _=>zq7) fun f5 a5 j5 hx5=>?_
    have hu5:=up_want (C:=C) (Nat.le_refl j4) _ _ hx5
    refine ex_then (later (by omega) hi (by simp[rank])) zq7 (fun _ _=>zq7) fun f6 a6 j6 hx6=>?_
    have hu6:=xo C f6 _ j5 j5 (Nat.le_refl _) _ _ hx6
    exact zy _
   ·refine ex_then (same (Nat.le_refl _) (by simp[rank])) zq7 (fun _ _=>zq7) fun f1 a1 j1 hx1=>?_
    exact ye (fun _=>zy _) fun _=>zy _
mutual
def flatT:Tr->Int->List Nd
 | .mk n ks,d=>⟨d,n.kind,n.name,n.num,n.op,n.at_⟩::flatTs ks (d+1)
def flatTs:List Tr->Int->List Nd
 |[],_=>[]
 |t::ts,d=>flatT t d++flatTs ts d
end
def ndCells(l:List Nd):List Value:=l.flatMap Nd.cells
theorem zS(l:List Nd):(ndCells l).length=l.length*6:=by
 induction l with
 |nil=>rfl
 |cons x l ih=>simp only[ndCells,List.flatMap_cons,List.length_append,List.length_cons] at ih⊢;rw[ih];simp[Nd.cells];omega
theorem zY(a b:List Tr)(d:Int):flatTs (a++b) d=flatTs a d++flatTs b d:=by
 induction a with
 |nil=>simp[flatTs]
 |cons x a ih=>simp[flatTs,ih]
theorem zhK(w:World)(n:Nd):∀(j:Nat) (u:Value),n.cells[j]? =some u->(w.alloc (.cells #[.int .i64 n.depth, .int .i64 n.kind, .string n.name, .int .i64 n.num, .int .i64 n.op, .int .i64 n.at_] 50)).cell? ((⟨w.heap.size,0,none⟩:Addr).add j)=some u:=by
 intro j u hj
 match j,hj with
 |0,hj=>simp[Nd.cells] at hj;subst hj;simp[go_sem,Addr.add]
 |1,hj=>simp[Nd.cells] at hj;subst hj;simp[go_sem,Addr.add]
 |2,hj=>simp[Nd.cells] at hj;subst hj;simp[go_sem,Addr.add]
 |3,hj=>simp[Nd.cells] at hj;subst hj;simp[go_sem,Addr.add]
 |4,hj=>simp[Nd.cells] at hj;subst hj;simp[go_sem,Addr.add]
 |5,hj=>simp[Nd.cells] at hj;subst hj;simp[go_sem,Addr.add]
 |j+6,hj=>simp[Nd.cells] at hj
theorem zbl(n:Nd):∀u∈n.cells,u.oneCell'=true:=by
 intro u hu
 simp only[Nd.cells,List.mem_cons,List.not_mem_nil,or_false] at hu
 rcases hu with rfl|rfl|rfl|rfl|rfl|rfl<;>rfl
def FlatC(A B:Nat)(w0:World)(p:Nat)(t:Tr):Prop:=
 ∀(w:World) (v:Value) (l:List Nd) (d:Int),(∀k,A<=k->k<B->w.heap[k]? =w0.heap[k]?)->B<=w.heap.size->w.ownsRow B 50 6 v l.length (ndCells l)->0<=d->d+(flatT t 0).length<=100000->l.length+(flatT t 0).length<=100000->
  Calls Tryz.prog 44 #[.pointer (some ⟨p,0,none⟩),v, .int .i64 d] w fun e w'=>∃v',e= .returned v'/\Below B w w'/\w'.ownsRow B 50 6 v' (l++flatT t d).length (ndCells (l++flatT t d))
mutual
theorem qW(d e:Int):∀t:Tr,(flatT t d).length=(flatT t e).length
 | .mk n ks=>by simp[flatT,yJ (d+1) (e+1) ks]
theorem yJ(d e:Int):∀ts:List Tr,(flatTs ts d).length=(flatTs ts e).length
 |[]=>rfl
 |t::ts=>by simp[flatTs,qW d e t,yJ d e ts]
end
theorem vS(d:Int):∀ts:List Tr,ts.length<=(flatTs ts d).length
 |[]=>Nat.le_refl _
 | .mk n ks::ts=>by have:=vS d ts;simp[flatTs,flatT];omega
theorem zhp(A B:Nat)(w0:World)(hB0:B<=w0.heap.size)(p:Nat)(t:Tr)(h:TrAt (fun k=>B<=k\/k<A) w0 p t):FlatC A B w0 p t:=by
 induction h with
 |mk p n ks b cap g q hp hpr hb hgr hcap hc hk ih=>
  intro w v l d hbw hBw hown hd hdn hln
  have hpB:p<B:=by omega
  have hpA:A<=p:=by omega
  have hpw:w.heap[p]? =some (.cells #[.int .i64 n.depth, .int .i64 n.kind, .string n.name, .int .i64 n.num, .int .i64 n.op, .int .i64 n.at_, .slice b ks.length cap] 148 (0,0)):=(hbw p hpA hpB).trans hp
  have c0:=cell_put hpw (o:=0) rfl
  have c1:=cell_put hpw (o:=1) rfl
  have c2:=cell_put hpw (o:=2) rfl
  have c3:=cell_put hpw (o:=3) rfl
  have c4:=cell_put hpw (o:=4) rfl
  have c5:=cell_put hpw (o:=5) rfl
  have c6:=cell_put hpw (o:=6) rfl
  have hpl:p<w.heap.size:=by omega
  obtain⟨ti,hi,hz0,hz1,hz2⟩:=info_parts kN
  have HO:=Lib.hid hown
  have HB:=Lib.hid hbw
  have HC:=Lib.hid hc
  have HI:=Lib.hid ih
  have HG:=Lib.hid hgr
  have HBB:=Lib.hid hb
  have hlen0:(flatT (.mk n ks) 0).length=1+(flatTs ks 1).length:=by simp[flatT];omega
  clear hown hbw hc ih hp hpw hk hgr hb
  go_enter Tryz.func44,Tryz.ntmps44
  go_wp2_with (at_builtin;refine wpList_append_own _ rfl (.tmp 16) (.tmp 18) 25 rfl B 50 ti _ 6 56 Tryz.underlying25 hi hz0 hz1 hz2 rfl (by decide) _ _ _ rfl ((HO.out.alloc _).alloc _) ⟨w.heap.size+1,0,none⟩ 1 1 (Nd.cells ⟨d,n.kind,n.name,n.num,n.op,n.at_⟩) rfl rfl (by simpa using zhK (w.alloc (.cells #[.int .i64 d, .int .i64 n.kind, .string n.name, .int .i64 n.num, .int .i64 n.op, .int .i64 n.at_] 50)) ⟨d,n.kind,n.name,n.num,n.op,n.at_⟩) (zbl _) (by simp[maxLen];omega) (by omega) (by simp;omega) ?_;intro v1 w1 hown1 hgrow1 _;have B1:Below B w w1:=(((Below.refl B w).alloc hBw _).alloc (by simp;omega) _).grown hgrow1 (by simp;omega) (fun k hk=>(HO.out.lt k hk).1);have c6b:w1.cell? ⟨p,6,none⟩=some (.slice b ks.length cap):=(B1.cell (p:=⟨p,6,none⟩) hpB).trans c6)
  have HO1:=Lib.hid hown1
  have HB1:=Lib.hid B1
  have hBw1:B<=w1.heap.size:=Nat.le_trans hBw B1.size
  clear hown1 hgrow1 B1 c0 c1 c2 c3 c4 c5 c6 c6b
  go_loopg [1,25] ks.length (fun gg x i wr=>∃k:Nat,i= .int .i64 k/\k<=ks.length/\gg=ks.length-k/\Below B w wr/\B<=wr.heap.size/\wr.ownsRow B 50 6 x (l++⟨d,n.kind,n.name,n.num,n.op,n.at_⟩::flatTs (ks.take k) (d+1)).length (ndCells (l++⟨d,n.kind,n.name,n.num,n.op,n.at_⟩::flatTs (ks.take k) (d+1))))
  case atStart=>exact⟨0,rfl,Nat.zero_le _,rfl,HB1.out,hBw1,by simpa [flatTs,ndCells] using HO1.out⟩
  case round=>
   obtain⟨k,rfl,hk,hgg,hbr,hbs,hor⟩:=hrel
   have HOR:=Lib.hid hor
   have HBR:=Lib.hid hbr
   have HGG:=Lib.hid hgg
   clear hor hbr hgg
   by_cases hlt:k<ks.length
   ·have hkb:k<100000:=by have:=vS 1 ks;omega
    obtain⟨u,hu⟩:∃u,ks[k]? =some u:=⟨_,List.getElem?_eq_getElem hlt⟩
    have hne:ks≠[]:=by rintro rfl;simp at hlt
    have hbe:=HBB.out hne
    subst hbe
    have hgB:g<B:=by have:=HG.out hne;omega
    have hgA:A<=g:=by have:=HG.out hne;omega
    have hcell:wr.cell? ⟨g,k,none⟩=some (.pointer (some ⟨q k,0,none⟩)):=(HBR.out.cell (p:=⟨g,k,none⟩) hgB).trans ((World.cell?_of_block (a:=⟨g,k,none⟩) (HB.out g hgA hgB)).trans (HC.out k u hu))
    have hcnt:(flatTs (ks.take k) 1).length+(flatT u 1).length<=(flatTs ks 1).length:=by
     have e:ks=ks.take k++u::ks.drop (k+1):=by
      rw[List.getElem?_eq_getElem hlt] at hu
      rw[<-Option.some.inj hu,List.getElem_cons_drop,List.take_append_drop]
     have e2:=congrArg (fun x=>(flatTs x 1).length) e
     simp only[zY,flatTs,List.length_append] at e2
     omega
    have l1:=yJ (d+1) 1 (ks.take k)
    have l2:=qW (d+1) 1 u
    have l3:=qW 0 1 u
    have hcall:=HI.out k u hu wr _ _ (d+1) (fun x h1 h2=>(HBR.out.block x h2).trans (HB.out x h1 h2)) hbs HOR.out (by omega) (by omega) (by simp only[List.length_append,List.length_cons];omega)
    have HU:=Lib.hid hu
    clear hu hcnt l1 l2 l3
    go_wp2_with (go_at_call 44;refine(hcall).mono ?_;rintro e w' ⟨v',rfl,hb',ho'⟩)
    go_roundg (ks.length-(k+1))
    case measure=>have:=HGG.out;omega
    case rel=>
     refine⟨k+1,by go_num,by omega,rfl,HBR.out.trans hb',Nat.le_trans hbs hb'.size,?_⟩
     have e:ks.take (k+1)=ks.take k++[u]:=by rw[List.take_add_one,HU.out];rfl
     rw[e,zY]
     simpa [flatTs] using ho'
   ·have hkk:k=ks.length:=by omega
    have e:ks.take k=ks:=by rw[hkk];exact List.take_length
    have HE:=Lib.hid e
    clear hkk e
    go_wp2
    go_ret
    refine⟨_,rfl,HBR.out,?_⟩
    have h:=HOR.out
    rw[HE.out] at h
    simpa [flatT] using h
def yl(ts:List Tr):Nat:=(flatTs ts 0).length
theorem zac:yl []=0:=rfl
theorem vJ(a b:List Tr):yl (a++b)=yl a+yl b:=by simp[yl,zY]
theorem wz(t:Tr)(b:List Tr):yl (t::b)=yl [t]+yl b:=vJ [t] b
theorem jJ(k:Int)(n:ByteArray)(x o a:Int)(ks:List Tr):yl [zJ k n x o a ks]=1+yl ks:=by
 simp only[yl,flatTs,zJ,flatT,List.length_append,List.length_cons,List.length_nil,yJ (0+1) 0 ks]
 omega
def Cn(i m:Nat)(x:Option (Res (List Tr))):Prop:=∀ts j,x=some (.ok ts j)->i+yl ts<=j+m
def jL:NT->Nat
 | .rest _ left=>yl [left]
 |_=>0
theorem zcw{α β:Type}{x:Option (Res α)}{F:α->Nat->Option (Res β)}{b:β}{j:Nat}(h:andThen x F=some (.ok b j)):∃a k,x=some (.ok a k)/\F a k=some (.ok b j):=by
 cases x with
 |none=>cases h
 |some y=>cases y with
  |no p=>simp[andThen] at h
  |ok a k=>exact⟨a,k,rfl,h⟩
theorem zic{C:Ctx}{s:ByteArray}{i k:Nat}{u:Unit}(h:wantR C s i=some (.ok u k)):k=i+1:=by
 unfold wantR at h;split at h
 ·cases h;rfl
 ·cases h
theorem name_ok{C:Ctx}{i k:Nat}{u:ByteArray}(h:yx C i=some (.ok u k)):k=i+1:=by
 unfold yx at h;split at h
 ·cases h;rfl
 ·cases h
theorem number_ok{C:Ctx}{i k:Nat}{u:Int}(h:z6 C i=some (.ok u k)):k=i+1:=by
 unfold z6 at h;split at h
 ·cases h;rfl
 ·cases h
theorem cn_then{α:Type}{i m:Nat}{x:Option (Res α)}{F:α->Nat->Option (Res (List Tr))}(k:∀a j,x=some (.ok a j)->Cn i m (F a j)):Cn i m (andThen x F):=by
 intro ts j h
 obtain⟨a,k',h1,h2⟩:=zcw h
 exact k a k' h1 ts j h2
theorem zaA{i m k:Nat}{ts:List Tr}(h:i+yl ts<=k+m):Cn i m (some (.ok ts k)):=fun _ _ e=>by cases e;exact h
theorem cn_no{i m:Nat}{p:Int}:Cn i m (some (.no p)):=fun _ _ e=>by cases e
theorem cn_none{i m:Nat}:Cn i m none:=fun _ _ e=>by cases e
theorem rd_nodes(C:Ctx):∀(f:Nat) (nt:NT) (i:Nat),Cn i (jL nt) (rd C f nt i):=by
 intro f
 induction f with
 |zero=>intro nt i;exact cn_none
 |succ f ih=>
  intro nt i
  cases nt with
  |row k=>
   simp only[rd]
   split
   ·exact ih .unary i
   ·refine cn_then fun a j h=>?_
    have h1:=ih _ _ _ _ h
    split
    ·intro ts m h2
     have h3:=ih _ _ _ _ h2
     simp only[jL] at h1 h3⊢
     omega
    ·exact cn_none
  |rest k left=>
   simp only[rd]
   split
   ·exact zaA (by simp[jL])
   ·refine cn_then fun a j h=>?_
    have h1:=ih _ _ _ _ h
    simp only[jL] at h1
    split
    ·have e2:=wz left
     split
     ·refine zaA ?_
      rw[jJ,e2]
      simp only[jL]
      omega
     ·intro ts m h2
      have h3:_+yl ts<=m+yl [_]:=ih _ _ _ _ h2
      rw[jJ,e2] at h3
      show i+yl ts<=m+yl [left]
      omega
    ·exact cn_none
  |_=>
   simp only[rd]
   repeat' first
    |exact cn_none
    |exact cn_no
    |(refine cn_then fun _ _ h=>?_;first|(have h1:=zic h;clear h)|(have h1:=name_ok h;clear h)|(have h1:=number_ok h;clear h)|(have h1:=ih _ _ _ _ h;simp only[jL] at h1;clear h))
    |(exact ih _ _)
    |(refine zaA ?_;simp only[jL,jJ,vJ,zac];omega)
    |(refine zaA ?_;rw[wz,jJ];simp only[jL,zac];omega)
    |split
def zR(w:World)(r gb:Nat)(v:Value)(l:List Int):Prop:=
 ∃b cap,v= .slice b l.length cap/\l.length<=cap/\(l≠[]->∃g off,b=some ⟨g,off,none⟩/\g≠r/\g≠gb/\∀(i:Nat) (x:Int),l[i]? =some x->w.cell? ⟨g,off+i,none⟩=some (.int .i64 x))
def shF(gb n:Nat)(heads:Bool):Nat->Value
 |0=> .slice (some ⟨gb,0,none⟩) n 26
 |_=> .bool heads
structure ShM (w:World) (B r gb:Nat) (o:List Hold) (heads:Bool):Prop where
 s:w.rowIs r 100 2 (shF gb o.length heads)
 row:∃F:Nat->Value,w.rowIs gb 157 104 F/\∀(j:Nat) (h:Hold),o[j]? =some h->F (j*4)= .int .i64 h.kind/\F (j*4+1)= .int .i64 h.depth/\F (j*4+3)= .int .i64 h.blocks/\zR w r gb (F (j*4+2)) h.wants
 len:o.length<=26
 ne:r≠gb
 hr:B<=r
 hg:B<=gb
section
variable {w w':World} {B r gb:Nat} {o:List Hold} {heads:Bool}
theorem zR.kept{v:Value}{l:List Int}(h:zR w r gb v l)(hk:∀k,k<w.heap.size->k≠r->k≠gb->w'.heap[k]? =w.heap[k]?):zR w' r gb v l:=by
 obtain⟨b,cap,h1,h2,h3⟩:=h
 refine⟨b,cap,h1,h2,fun hl=>?_⟩
 obtain⟨g,off,h4,h5,h6,h7⟩:=h3 hl
 refine⟨g,off,h4,h5,h6,fun i x hx=>?_⟩
 have hc:=h7 i x hx
 have hlt:=World.block_lt_of_cell? w ⟨g,off+i,none⟩ hc
 exact(World.cell?_of_block (a:=⟨g,off+i,none⟩) (hk g hlt h5 h6)).trans hc
theorem ShM.kept(h:ShM w B r gb o heads)(hk:∀k,k<w.heap.size->w'.heap[k]? =w.heap[k]?):ShM w' B r gb o heads:=by
 obtain⟨F,h1,h2⟩:=h.row
 refine⟨h.s.of_block (hk r h.s.lt),⟨F,h1.of_block (hk gb h1.lt),fun j x hx=>?_⟩,h.len,h.ne,h.hr,h.hg⟩
 obtain⟨a,b,c,d⟩:=h2 j x hx
 exact⟨a,b,c,d.kept fun k hl _ _=>hk k hl⟩
theorem ShM.drewN(h:ShM w B r gb o heads)(n:Nat):ShM (w.drewN n) B r gb o heads:=h.kept fun _ _=>rfl
theorem ShM.kin(h:ShM w B r gb o heads)(k:Kin w w'):ShM w' B r gb o heads:=h.kept k.block
theorem ShM.c0(h:ShM w B r gb o heads):w.cell? ⟨r,0,none⟩=some (.slice (some ⟨gb,0,none⟩) o.length 26):=h.s.cell (i:=0) (by omega)
theorem ShM.c1(h:ShM w B r gb o heads):w.cell? ⟨r,1,none⟩=some (.bool heads):=h.s.cell (i:=1) (by omega)
theorem ShM.kind(h:ShM w B r gb o heads){j:Nat}{x:Hold}(hx:o[j]? =some x):w.cell? ⟨gb,j*4,none⟩=some (.int .i64 x.kind):=by
 obtain⟨F,h1,h2⟩:=h.row
 have hj:=(List.getElem?_eq_some_iff.1 hx).1
 have hl:=h.len
 rw[h1.cell (by omega),(h2 j x hx).1]
theorem ShM.depth(h:ShM w B r gb o heads){j:Nat}{x:Hold}(hx:o[j]? =some x):w.cell? ⟨gb,j*4+1,none⟩=some (.int .i64 x.depth):=by
 obtain⟨F,h1,h2⟩:=h.row
 have hj:=(List.getElem?_eq_some_iff.1 hx).1
 have hl:=h.len
 rw[h1.cell (by omega),(h2 j x hx).2.1]
theorem ShM.blocks(h:ShM w B r gb o heads){j:Nat}{x:Hold}(hx:o[j]? =some x):w.cell? ⟨gb,j*4+3,none⟩=some (.int .i64 x.blocks):=by
 obtain⟨F,h1,h2⟩:=h.row
 have hj:=(List.getElem?_eq_some_iff.1 hx).1
 have hl:=h.len
 rw[h1.cell (by omega),(h2 j x hx).2.2.1]
theorem ShM.wants(h:ShM w B r gb o heads){j:Nat}{x:Hold}(hx:o[j]? =some x):∃v,w.cell? ⟨gb,j*4+2,none⟩=some v/\zR w r gb v x.wants:=by
 obtain⟨F,h1,h2⟩:=h.row
 have hj:=(List.getElem?_eq_some_iff.1 hx).1
 have hl:=h.len
 exact⟨_,h1.cell (by omega),(h2 j x hx).2.2.2⟩
end
def ixV:Option Nat->Int
 |some i=>i
 |none=> -1
theorem kA{B r gb:Nat}{o:List Hold}{heads:Bool}(w:World)(h:ShM w B r gb o heads):Calls Tryz.prog 52 #[.pointer (some ⟨r,0,none⟩)] w fun e w'=>e= .returned (.int .i64 (ixV (qc o)))/\w'=w:=by
 have c0:=h.c0
 have hl:=h.len
 have HM:=Lib.hid h
 clear h
 go_enter Tryz.func52,Tryz.ntmps52
 go_wp2
 go_loop [3] (fun c=>∃x:Int,c= .int .i64 x/\((x= -1/\∀(j:Nat) (y:Hold),o[j]? =some y->(!y.wants.isEmpty)=false)\/∃i:Nat,x=i/\i<o.length/\∀(j:Nat) (y:Hold),i<j->o[j]? =some y->(!y.wants.isEmpty)=false)) (fun c=>(intOf c+1).toNat)
 case atStart=>
  refine⟨(o.length:Int)-1,by go_num,?_⟩
  rcases Nat.eq_zero_or_pos o.length with h0|h0
  ·left
   refine⟨by omega,fun j y hy=>?_⟩
   have:=(List.getElem?_eq_some_iff.1 hy).1
   omega
  ·right
   refine⟨o.length-1,by omega,by omega,fun j y hj hy=>?_⟩
   have:=(List.getElem?_eq_some_iff.1 hy).1
   omega
 case round=>
  obtain⟨x,rfl,hx⟩:=hrel
  rcases hx with⟨rfl,hno⟩|⟨i,rfl,hi,hno⟩
  ·have hw:qc o=none:=lastIx_of_none hno
   clear hno
   go_wp2
   go_ret
   exact⟨rfl,rfl⟩
  ·obtain⟨y,hy⟩:∃y,o[i]? =some y:=⟨_,List.getElem?_eq_getElem hi⟩
   obtain⟨v,hv,b,cap,rfl,hcap,hne⟩:=HM.out.wants hy
   have hnn:(0:Int)<=i:=by omega
   clear hne
   cases hyw:y.wants with
   |nil=>
    have hno2:∀(j:Nat) (z:Hold),i<=j->o[j]? =some z->(!z.wants.isEmpty)=false:=fun j z hj hz=>by
     rcases Nat.lt_or_ge i j with h'|h'
     ·exact hno j z h' hz
     ·have:j=i:=by omega
      subst this
      rw[hy] at hz;cases hz
      rw[hyw];rfl
    have e0:y.wants.length=0:=by rw[hyw];rfl
    rw[e0] at hv hcap
    clear hno hyw hy e0
    go_wp2
    refine⟨⟨(i:Int)-1,rfl,?_⟩,by simp[intOf]⟩
    rcases Nat.eq_zero_or_pos i with h0|h0
    ·left
     exact⟨by omega,fun j z hz=>hno2 j z (by omega) hz⟩
    ·right
     exact⟨i-1,by omega,by omega,fun j z hj hz=>hno2 j z (by omega) hz⟩
   |cons a l=>
    have hw:qc o=some i:=lastIx_of hy (by rw[hyw];rfl) hno
    have e0:0<y.wants.length:=by rw[hyw];simp
    generalize y.wants.length=n at e0 hv hcap
    have e1:(0:Int)<n:=by omega
    clear hno hyw hy
    go_wp2
    go_ret
    exact⟨rfl,rfl⟩
theorem zhi{B r gb:Nat}{o:List Hold}{heads:Bool}(d:Int)(w:World)(h:ShM w B r gb o heads):Calls Tryz.prog 97 #[.pointer (some ⟨r,0,none⟩), .int .i64 d] w fun e w'=>e= .returned (.int .i64 (ixV (heldIx o d)))/\w'=w:=by
 have c0:=h.c0
 have hl:=h.len
 have HM:=Lib.hid h
 clear h
 go_enter Tryz.func97,Tryz.ntmps97
 go_wp2
 go_loop [5] (fun c=>∃x:Int,c= .int .i64 x/\((x= -1/\∀(j:Nat) (y:Hold),o[j]? =some y->decide (y.depth=d)=false)\/∃i:Nat,x=i/\i<o.length/\∀(j:Nat) (y:Hold),i<j->o[j]? =some y->decide (y.depth=d)=false)) (fun c=>(intOf c+1).toNat)
 case atStart=>
  refine⟨(o.length:Int)-1,by go_num,?_⟩
  rcases Nat.eq_zero_or_pos o.length with h0|h0
  ·left
   refine⟨by omega,fun j y hy=>?_⟩
   have:=(List.getElem?_eq_some_iff.1 hy).1
   omega
  ·right
   refine⟨o.length-1,by omega,by omega,fun j y hj hy=>?_⟩
   have:=(List.getElem?_eq_some_iff.1 hy).1
   omega
 case round=>
  obtain⟨x,rfl,hx⟩:=hrel
  rcases hx with⟨rfl,hno⟩|⟨i,rfl,hi,hno⟩
  ·have hw:heldIx o d=none:=lastIx_of_none hno
   clear hno
   go_wp2
   go_ret
   exact⟨rfl,rfl⟩
  ·obtain⟨y,hy⟩:∃y,o[i]? =some y:=⟨_,List.getElem?_eq_getElem hi⟩
   have hv:=HM.out.depth hy
   have hnn:(0:Int)<=i:=by omega
   by_cases hyd:y.depth=d
   ·have hw:heldIx o d=some i:=lastIx_of hy (by simp[hyd]) hno
    have hd:(y.depth==d)=true:=by simp[hyd]
    clear hno hyd hy
    go_wp2
    go_ret
    exact⟨rfl,rfl⟩
   ·have hno2:∀(j:Nat) (z:Hold),i<=j->o[j]? =some z->decide (z.depth=d)=false:=fun j z hj hz=>by
     rcases Nat.lt_or_ge i j with h'|h'
     ·exact hno j z h' hz
     ·have:j=i:=by omega
      subst this
      rw[hy] at hz;cases hz
      simp[hyd]
    have hd:(y.depth==d)=false:=by simp[hyd]
    clear hno hyd hy
    go_wp2
    refine⟨⟨(i:Int)-1,rfl,?_⟩,by simp[intOf]⟩
    rcases Nat.eq_zero_or_pos i with h0|h0
    ·left
     exact⟨by omega,fun j z hz=>hno2 j z (by omega) hz⟩
    ·right
     exact⟨i-1,by omega,by omega,fun j z hj hz=>hno2 j z (by omega) hz⟩
structure Ap (r gb:Nat) (w w':World):Prop where
 os:w'.os=w.os
 out:w'.output=w.output
 size:w.heap.size<=w'.heap.size
 block:∀k,k<w.heap.size->k≠r->k≠gb->w'.heap[k]? =w.heap[k]?
section
variable {r gb:Nat} {w w' w'':World}
theorem Ap.refl(w:World):Ap r gb w w:=⟨rfl,rfl,Nat.le_refl _,fun _ _ _ _=>rfl⟩
theorem Ap.trans(h:Ap r gb w w')(k:Ap r gb w' w''):Ap r gb w w'':=
 ⟨k.os.trans h.os,k.out.trans h.out,Nat.le_trans h.size k.size,fun j hj h1 h2=>(k.block j (Nat.lt_of_lt_of_le hj h.size) h1 h2).trans (h.block j hj h1 h2)⟩
theorem Ap.of_kin(k:Kin w w'):Ap r gb w w':=⟨k.os,k.out,k.size,fun j hj _ _=>k.block j hj⟩
theorem Ap.set(h:Ap r gb w w'){a:Addr}(ha:a.block=r\/a.block=gb)(v:Value):Ap r gb w (w'.setCell a v):=
 ⟨h.os,h.out,by simp[World.setCell];exact h.size,fun j hj h1 h2=>(Go.Deep.blk_setCell_other _ _ _ _ (by rcases ha with e|e<;>rw[e]<;>assumption)).trans (h.block j hj h1 h2)⟩
theorem Ap.drewN(h:Ap r gb w w')(n:Nat):Ap r gb w (w'.drewN n):=⟨h.os,h.out,h.size,h.block⟩
theorem Ap.cell(h:Ap r gb w w'){n o:Nat}(hn:n<w.heap.size)(h1:n≠r)(h2:n≠gb):w'.cell? ⟨n,o,none⟩=w.cell? ⟨n,o,none⟩:=World.cell?_of_block (a:=⟨n,o,none⟩) (h.block n hn h1 h2)
theorem Ap.frozen(h:Ap r gb w w'){n o:Nat}(hn:n<w.heap.size)(h1:n≠r)(h2:n≠gb):w'.frozen? ⟨n,o,none⟩=w.frozen? ⟨n,o,none⟩:=World.frozen?_of_block (a:=⟨n,o,none⟩) (h.block n hn h1 h2)
end
section
variable {w w':World} {B r gb:Nat} {o:List Hold} {heads:Bool}
theorem ShM.fs(h:ShM w B r gb o heads)(i:Nat):w.frozen? ⟨r,i,none⟩=false:=h.s.frozen i
theorem ShM.fr(h:ShM w B r gb o heads)(i:Nat):w.frozen? ⟨gb,i,none⟩=false:=by
 obtain⟨F,h1,_⟩:=h.row
 exact h1.frozen i
theorem ShM.trunc(h:ShM w B r gb o heads){m:Nat}(hm:m<=o.length):ShM (w.setCell ⟨r,0,none⟩ (.slice (some ⟨gb,0,none⟩) m 26)) B r gb (o.take m) heads:=by
 have hlen:(o.take m).length=m:=by simp;omega
 obtain⟨F,h1,h2⟩:=h.row
 refine⟨(h.s.set 0 _).congr fun i hi=>?_,⟨F,h1.setOther (fun e=>h.ne e.symm) _,fun j x hx=>?_⟩,by have:=h.len;omega,h.ne,h.hr,h.hg⟩
 ·rw[hlen]
  match i,hi with
  |0,_=>rfl
  |1,_=>rfl
 ·rw[List.getElem?_take] at hx
  split at hx
  ·obtain⟨a,b,c,d⟩:=h2 j x hx
   exact⟨a,b,c,d.kept fun k _ h1 _=>Go.Deep.blk_setCell_other _ _ _ _ h1⟩
  ·cases hx
theorem ShM.setHeads(h:ShM w B r gb o heads)(b:Bool):ShM (w.setCell ⟨r,1,none⟩ (.bool b)) B r gb o b:=by
 obtain⟨F,h1,h2⟩:=h.row
 refine⟨(h.s.set 1 _).congr fun i hi=>?_,⟨F,h1.setOther (fun e=>h.ne e.symm) _,fun j x hx=>?_⟩,h.len,h.ne,h.hr,h.hg⟩
 ·match i,hi with
  |0,_=>rfl
  |1,_=>rfl
 ·obtain⟨a,b,c,d⟩:=h2 j x hx
  exact⟨a,b,c,d.kept fun k _ h1 _=>Go.Deep.blk_setCell_other _ _ _ _ h1⟩
theorem ShM.setBlocks(h:ShM w B r gb o heads){u:Nat}{g:Hold}(hu:o[u]? =some g)(b:Int):ShM (w.setCell ⟨gb,u*4+3,none⟩ (.int .i64 b)) B r gb (o.set u {g with blocks:=b}) heads:=by
 obtain⟨F,h1,h2⟩:=h.row
 have hul:=(List.getElem?_eq_some_iff.1 hu).1
 refine⟨by rw[List.length_set];exact h.s.setOther h.ne _,⟨_,h1.set (u*4+3) _,fun j x hx=>?_⟩,by rw[List.length_set];exact h.len,h.ne,h.hr,h.hg⟩
 rw[List.getElem?_set] at hx
 have keep:∀v l,zR w r gb v l->zR (w.setCell ⟨gb,u*4+3,none⟩ (.int .i64 b)) r gb v l:=fun v l hv=>hv.kept fun k _ _ h2=>Go.Deep.blk_setCell_other _ _ _ _ h2
 by_cases e:u=j
 ·subst e
  rw[if_pos rfl,if_pos hul] at hx
  cases hx
  obtain⟨a,b',c,d⟩:=h2 u g hu
  simp only[show ¬u*4=u*4+3 from by omega,show ¬u*4+1=u*4+3 from by omega,show ¬u*4+2=u*4+3 from by omega,if_false,if_true]
  exact⟨a,b',trivial,keep _ _ d⟩
 ·rw[if_neg e] at hx
  obtain⟨a,b',c,d⟩:=h2 j x hx
  simp only[show ¬j*4=u*4+3 from by omega,show ¬j*4+1=u*4+3 from by omega,show ¬j*4+2=u*4+3 from by omega,show ¬j*4+3=u*4+3 from by omega,if_false]
  exact⟨a,b',c,keep _ _ d⟩
theorem ShM.setWants(h:ShM w B r gb o heads){u:Nat}{g:Hold}(hu:o[u]? =some g){v:Value}{l:List Int}(hv:zR w r gb v l):ShM (w.setCell ⟨gb,u*4+2,none⟩ v) B r gb (o.set u {g with wants:=l}) heads:=by
 obtain⟨F,h1,h2⟩:=h.row
 have hul:=(List.getElem?_eq_some_iff.1 hu).1
 refine⟨by rw[List.length_set];exact h.s.setOther h.ne _,⟨_,h1.set (u*4+2) _,fun j x hx=>?_⟩,by rw[List.length_set];exact h.len,h.ne,h.hr,h.hg⟩
 rw[List.getElem?_set] at hx
 have keep:∀v' l,zR w r gb v' l->zR (w.setCell ⟨gb,u*4+2,none⟩ v) r gb v' l:=fun v l hv=>hv.kept fun k _ _ h2=>Go.Deep.blk_setCell_other _ _ _ _ h2
 by_cases e:u=j
 ·subst e
  rw[if_pos rfl,if_pos hul] at hx
  cases hx
  obtain⟨a,b',c,d⟩:=h2 u g hu
  simp only[show ¬u*4=u*4+2 from by omega,show ¬u*4+1=u*4+2 from by omega,show ¬u*4+3=u*4+2 from by omega,if_false,if_true]
  exact⟨a,b',c,keep _ _ hv⟩
 ·rw[if_neg e] at hx
  obtain⟨a,b',c,d⟩:=h2 j x hx
  simp only[show ¬j*4=u*4+2 from by omega,show ¬j*4+1=u*4+2 from by omega,show ¬j*4+2=u*4+2 from by omega,show ¬j*4+3=u*4+2 from by omega,if_false]
  exact⟨a,b',c,keep _ _ d⟩
theorem zR.tail{v:Value}{x:Int}{l:List Int}(h:zR w r gb v (x::l)):∃g off cap,v= .slice (some ⟨g,off,none⟩) (l.length+1) cap/\l.length+1<=cap/\w.cell? ⟨g,off,none⟩=some (.int .i64 x)/\zR w r gb (.slice (some ⟨g,off+1,none⟩) l.length (cap-1)) l/\(cap<=1->zR w r gb (.slice (some ⟨g,off,none⟩) l.length 0) l):=by
 obtain⟨b,cap,h1,h2,h3⟩:=h
 obtain⟨g,off,rfl,h5,h6,h7⟩:=h3 (by simp)
 refine⟨g,off,cap,h1,by simpa using h2,h7 0 x rfl,⟨some ⟨g,off+1,none⟩,cap-1,rfl,by simp at h2;omega,fun _=>⟨g,off+1,rfl,h5,h6,fun i y hy=>?_⟩⟩,fun hc=>?_⟩
 ·have:=h7 (i+1) y (by simpa using hy)
  rw[show off+(i+1)=off+1+i from by omega] at this
  exact this
 ·have hl:l=[]:=List.eq_nil_of_length_eq_zero (by simp at h2;omega)
  subst hl
  exact⟨some ⟨g,off,none⟩,0,rfl,Nat.le_refl _,fun h=>absurd rfl h⟩
end
end Go.Proofs.YtonmcakdofbjiaaGreatDoor
