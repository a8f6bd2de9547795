/- A part. -/
import Derived.Test.YtonmcakdofbjiaaGreatDoorM16
import Derived.Laws.AppendOwnNone
import Derived.Recover
import Derived.Outline
import Derived.Laws.NewBlocks
import Derived.Test.YtonmcakdofbjiaaGreatDoorM14
set_option linter.all false
set_option maxRecDepth 100000
set_option maxHeartbeats 8000000
namespace Go.Proofs.YtonmcakdofbjiaaGreatDoor
open Go.RowKit
theorem zaw:(Tryz.prog.info? 50).map (fun i=>(i.zero,i.size,i.bytes))=some (some (.agg #[.int .i64 0, .int .i64 0, .string ⟨#[]⟩, .int .i64 0, .int .i64 0, .int .i64 0]),6,56):=by kernel_rfl
theorem wpList_append_leaf{C:Ctx}{w w3:World}{i j:Nat}{ks:List Tr}{ops:Array Oper}{rest:List Oper}{o:Oper}{a:Act}{Q:Exit->Act->World->Prop}(n:Nd)(b:Option Addr)(cap:Nat)(hgd:o.guard=none)(s x:Operand)
 (ho:o.op= .call {callee:= .builtin .append,args:= #[s,x],argTypes:= #[87,87]}) (h0:Rd C i w) (hR:Rd C j w3) (hG:Grew C w w3) {v:Value} (hK:KidsOwn C w w3 v ks) (hlen:ks.length<=8193) (hs:a.eval s=v) (hx:a.eval x= .slice (some ⟨w3.heap.size+1+1,0,none⟩) 1 1)
 (h:∀v' w',KidsOwn C w w' v' (ks++[.mk n []])->Rd C j w'->Grew C w w'->wpList Tryz.prog ops Q rest (a.put o.dst v') w'):
 wpList Tryz.prog ops Q (o::rest) a (((w3.alloc (.cells #[.int .i64 n.depth, .int .i64 n.kind, .string n.name, .int .i64 n.num, .int .i64 n.op, .int .i64 n.at_] 50)).alloc (.cells #[.int .i64 n.depth, .int .i64 n.kind, .string n.name, .int .i64 n.num, .int .i64 n.op, .int .i64 n.at_, .slice b 0 cap] 148)).alloc (.cells #[.pointer (some ⟨w3.heap.size+1,0,none⟩)] 89)):=by
 obtain⟨ti,hi,hz0,hz1,hz2⟩:=info_parts vr
 have hT:=tr_leaf (C:=C) (w0:=w3) n (uU _ w3 b cap) hR.lt (Nat.le_refl _);have hg2:Grew C w3 ((w3.alloc (.cells #[.int .i64 n.depth, .int .i64 n.kind, .string n.name, .int .i64 n.num, .int .i64 n.op, .int .i64 n.at_] 50)).alloc (.cells #[.int .i64 n.depth, .int .i64 n.kind, .string n.name, .int .i64 n.num, .int .i64 n.op, .int .i64 n.at_, .slice b 0 cap] 148)):=grew_alloc2 _ _ _;have hsz:((w3.alloc (.cells #[.int .i64 n.depth, .int .i64 n.kind, .string n.name, .int .i64 n.num, .int .i64 n.op, .int .i64 n.at_] 50)).alloc (.cells #[.int .i64 n.depth, .int .i64 n.kind, .string n.name, .int .i64 n.num, .int .i64 n.op, .int .i64 n.at_, .slice b 0 cap] 148)).heap.size=w3.heap.size+1+1:=by simp
 have hR2:=(hR.alloc (.cells #[.int .i64 n.depth, .int .i64 n.kind, .string n.name, .int .i64 n.num, .int .i64 n.op, .int .i64 n.at_] 50)).alloc (.cells #[.int .i64 n.depth, .int .i64 n.kind, .string n.name, .int .i64 n.num, .int .i64 n.op, .int .i64 n.at_, .slice b 0 cap] 148);simp only[List.length_nil] at hT;generalize ((w3.alloc (.cells #[.int .i64 n.depth, .int .i64 n.kind, .string n.name, .int .i64 n.num, .int .i64 n.op, .int .i64 n.at_] 50)).alloc (.cells #[.int .i64 n.depth, .int .i64 n.kind, .string n.name, .int .i64 n.num, .int .i64 n.op, .int .i64 n.at_, .slice b 0 cap] 148))=W at hT hg2 hsz hR2⊢;have K2:=hK.grew h0.lt hg2;obtain⟨ps,hps,hown,htr⟩:=id K2
 rw[<-hsz] at hx;refine zk _ hgd s x 87 ho w.heap.size 89 ti _ 1 8 Tryz.underlying87 hi hz0 hz1 hz2 rfl (by decide) v _ (ps.map ptrV) hs (hown.alloc _) ⟨W.heap.size,0,none⟩ 1 1 [ptrV (w3.heap.size+1)] hx rfl (new1 W _) (yL [w3.heap.size+1]) (by simp[maxLen];omega) (by omega) (by have:=hG.size;have:=hg2.size;simp;omega) ?_
 intro v3 w4 hown3 hgrow3 hv3;have K3:KidsOwn C w w4 v3 (ks++[.mk n []]):=KidsOwn.append (ts:=[.mk n []]) (qs:=[w3.heap.size+1]) hps htr rfl (yB (w2:=w) hT hG.size (fun k hk=>(hK.row h0.lt hk).2.2)) hown3 hgrow3 hv3;have hrow:∀k,v.ownBlock=some k->w.heap.size<=k:=fun k hk=>(hK.row h0.lt hk).1;exact h v3 w4 K3 (h0.row (hR2.alloc _) hgrow3 hrow) (qq (grown_trans (grown_trans hG hg2) (World.grownBy_alloc W _ (some C.r))) hgrow3 hrow)
theorem wpList_append_kids{C:Ctx}{w wk W:World}{i j:Nat}{ks ts:List Tr}{ops:Array Oper}{rest:List Oper}{o:Oper}{a:Act}{Q:Exit->Act->World->Prop}(hgd:o.guard=none)(s x:Operand)
 (ho:o.op= .call {callee:= .builtin .append,args:= #[s,x],argTypes:= #[87,87]}) (h0:Rd C i w) (hR:Rd C j W) (hG:Grew C w W) {v u:Value} (hK:KidsOwn C w W v ks) (hv:∀k,v.ownBlock=some k->k<wk.heap.size) (hwk:w.heap.size<=wk.heap.size) (hU:KidsOwn C wk W u ts) (hlen:ks.length+ts.length<=8193) (hs:a.eval s=v) (hx:a.eval x=u)
 (h:∀v' w',KidsOwn C w w' v' (ks++ts)->Rd C j w'->Grew C w w'->wpList Tryz.prog ops Q rest (a.put o.dst v') w'):wpList Tryz.prog ops Q (o::rest) a W:=by
 obtain⟨ti,hi,hz0,hz1,hz2⟩:=info_parts vr
 obtain⟨ps,hps,hown,htr⟩:=id hK
 obtain⟨qs,hqs,hown2,htr2⟩:=id hU
 rcases hown2.2 with⟨rfl,hn⟩|⟨g,cap,cur,rfl,hb,hg,hn,hm,hsz,htake⟩
 ·have hts:ts=[]:=List.eq_nil_of_length_eq_zero hn;subst hts;refine wpList_append_own_none hgd s x 87 ho w.heap.size 89 ti 1 Tryz.underlying87 hi v _ _ hs hown hx ?_;exact h v W (by rw[List.append_nil];exact hK) hR hG
 ·refine zk _ hgd s x 87 ho w.heap.size 89 ti _ 1 8 Tryz.underlying87 hi hz0 hz1 hz2 rfl (by decide) v _ (ps.map ptrV) hs hown ⟨g,0,none⟩ ts.length cap (qs.map ptrV) hx (by simp[hqs]) (hown2.cells rfl) (yL qs) (by simp[maxLen];omega) (by omega) hG.size ?_
  intro v3 w4 hown3 hgrow3 hv3;have hrow:∀k,v.ownBlock=some k->w.heap.size<=k:=fun k hk=>(hK.row h0.lt hk).1;have hts:∀(j:Nat) (t:Tr),ts[j]? =some t->∃p,qs[j]? =some p/\TrAt (fun k=>Old C w k\/v.ownBlock=some k) W p t:=fun j t hj=>by
   obtain⟨p,hp,hT⟩:=htr2 j t hj
   exact⟨p,hp,hT.mono fun k hk=> .inl (hk.elim (old_sz hwk k) fun h=> .inr (hv k h))⟩
  have hkeep:∀{p:Nat} {t:Tr},TrAt (fun k=>Old C w k\/v.ownBlock=some k) W p t->TrAt (fun k=>Old C w k\/v3.ownBlock=some k) w4 p t:=by
   intro p t hT;have hT3:=hT.bound.kept (w':=w4) fun k hk hx=>hgrow3.block k hk (fun e=>hx (.inl (.inr e.symm)));refine hT3.mono fun k hk=>?_;rcases hk with hk|hk
   ·exact .inl (.inl hk)
   ·rcases hv3 k hk with h|h
    ·exact .inl (.inr h)
    ·exact .inr h
  have K3:KidsOwn C w w4 v3 (ks++ts):=by
   refine⟨ps++qs,by simp[hps,hqs],by rw[List.map_append,List.length_append];exact hown3,fun j t hj=>?_⟩
   by_cases hlt:j<ks.length
   ·rw[List.getElem?_append_left hlt] at hj;obtain⟨p,hp,hT⟩:=htr j t hj
    exact⟨p,by rw[List.getElem?_append_left (by omega)];exact hp,hkeep hT⟩
   ·rw[List.getElem?_append_right (by omega)] at hj
    obtain⟨p,hp,hT⟩:=hts _ t hj
    exact⟨p,by rw[List.getElem?_append_right (by omega),hps];exact hp,hkeep hT⟩
  exact h v3 w4 K3 (h0.row hR hgrow3 hrow) (qq hG hgrow3 hrow)
def OneT(x:Option (Res (List Tr))):Prop:=∀ts j,x=some (.ok ts j)->ts.length<=1
theorem zfN{α:Type}{x:Option (Res α)}{F:α->Nat->Option (Res (List Tr))}(k:∀a j,OneT (F a j)):OneT (andThen x F):=by
 intro b j hb;cases x with
 |none=>cases hb
 |some y=>cases y with
  |no p=>simp[andThen] at hb
  |ok a j'=>exact k a j' b j hb
theorem ziH{k:Nat}{a:List Tr}(h:a.length<=1):OneT (some (.ok a k)):=fun b j hb=>by cases hb;exact h
theorem stmt_one{C:Ctx}{f i:Nat}:OneT (rd C f .stmt i):=by
 cases f with
 |zero=>intro ts j h;cases h
 |succ f=>
  simp only[rd]
  repeat' first
   |exact ziH (by simp)
   |(refine zfN fun a j=>?_)
   |split
theorem za2{C:Ctx}:∀{f i j:Nat} {ts:List Tr},rd C f .stmts i=some (.ok ts j)->i+ts.length<=j:=by
 intro f;induction f with
 |zero=>intro i j ts h;cases h
 |succ f ih=>
  intro i j ts h;simp only[rd] at h;cases hx:rd C f .stmt i with
  |none=>rw[hx] at h;cases h
  |some y=>
   rw[hx] at h;cases y with
   |no p=>simp[andThen] at h
   |ok us k=>
    have h1:=stmt_one us k hx;cases us with
    |nil=>simp[andThen] at h;have:=zgH C f .stmt i i (Nat.le_refl _) _ _ hx;obtain⟨rfl,rfl⟩:=h;simpa using this
    |cons u l=>
     have h2:=zbO hx;simp only[andThen,List.isEmpty_cons] at h;cases hy:rd C f .stmts k with
     |none=>rw[hy] at h;simp[andThen] at h
     |some z=>
      rw[hy] at h;cases z with
      |no p=>simp[andThen] at h
      |ok vs m=>
       simp[andThen] at h;obtain⟨h5,rfl⟩:=h
       rw[<-h5];have:=ih hy
       simp only[List.length_cons,List.length_append] at h1⊢;omega
theorem zfH(C:Ctx)(n:Nat)(i:Nat)(w:World)(r:Res (List Tr))(hr:rd C n .prog i=some r)(h:Rd C i w):Calls Tryz.prog 43 #[.pointer (some ⟨C.r,0,none⟩)] w (zI C w r (zav C w)):=by
 have H0:=Lib.hid h;have HR:=Lib.hid hr;have hlt:=h.lt;obtain⟨ti,hi,hz0,hz1,hz2⟩:=info_parts vr
 clear hr h;go_enter Tryz.func43,Tryz.ntmps43;go_wp2;go_loopg [3] n (fun g x wr=>∃ks j rr,KidsOwn C w wr x ks/\Rd C j wr/\Grew C w wr/\g<=n/\ks.length<=j/\rd C g .prog j=some rr/\r=prep ks rr)
 case atStart=>exact⟨[],i,r,ua C w w,H0.out,World.grownBy.refl _ _,Nat.le_refl _,Nat.zero_le _,HR.out,by cases r<;>rfl⟩
 case round=>
  obtain⟨ks,j,rr,hK,hR,hG,hg,hlen,hr,hrr⟩:=hrel
  cases gk with
  |zero=>cases hr
  |succ g=>
   have hjl:=hR.le;have hll:=hR.len;have hat:=yy C j wr hR;simp only[rd] at hr;have HK:=Lib.hid hK;have HRd:=Lib.hid hR;have HG:=Lib.hid hG;have HRR:=Lib.hid hrr;clear hK hR hG hrr;by_cases c1:zb C.l j ⟨#[118,97,114]⟩=true
   ·rw[if_pos c1] at hr;by_cases c2:zO C.l (j+1)=true
    ·simp only[yU,if_pos c2,andThen] at hr;by_cases c3:zb C.l (j+1+1) ⟨#[59]⟩=true
     ·simp only[zp,if_pos c3,andThen] at hr;have HE:=Lib.hid hr;clear hr;go_wp2_with (first|(go_at_call 78;with_reducible refine(hat).mono ?_;rintro e w1 ⟨rfl,hR1,hG1⟩)|(go_at_call 79;with_reducible refine(skip_yes C j ⟨#[118,97,114]⟩ _ hR1 c1).mono ?_;rintro e w2 ⟨rfl,hR2,hG2⟩)|(go_at_call 81;with_reducible refine(name_yes C (j+1) _ hR2 c2).mono ?_;rintro e w3 ⟨rfl,hR3,hG3⟩)|(go_at_call 80;with_reducible refine(leaf_any ⟨0,0,textAt C.l (j+1),0,0,placeOf C.l C.e j⟩ _ _ _ _).mono ?_;rintro e wl ⟨rfl,rfl⟩)|(at_builtin;refine wpList_append_leaf ⟨0,0,textAt C.l (j+1),0,0,placeOf C.l C.e j⟩ _ _ rfl (.tmp 28) (.tmp 34) rfl H0.out hR3 (grown_trans HG.out (grown_trans hG1 (grown_trans hG2 hG3))) (HK.out.grew hlt (grown_trans hG1 (grown_trans hG2 hG3))) (by omega) rfl rfl ?_;intro v5 w5 K5 hR5 hG5)|(go_at_call 82;with_reducible refine(want_at C (j+1+1) ⟨#[59]⟩ _ _ (by simp) hR5 c3).mono ?_;rintro e w6 ⟨rfl,hR6,hG6⟩));have hr:=HE.out;have K6:=K5.grew hlt hG6;have G6:=grown_trans hG5 hG6;cases hy:rd C g .prog (j+1+1+1) with
      |none=>rw[hy] at hr;simp[andThen] at hr
      |some y2=>
       rw[hy] at hr;have HY:=Lib.hid hy;have HRY:Hid (rr=prep [leafT 0 (textAt C.l (j+1)) 0 0 (placeOf C.l C.e j) []] y2):=by
        show rr=prep [leafT 0 (textAt C.l (j+1)) 0 0 (placeOf C.l C.e j) []] y2;cases y2<;>simp[andThen,prep] at hr⊢ <;>exact hr.symm
       clear hr hy;go_roundg g
       case measure=>omega
       case rel=>
        refine⟨ks++[leafT 0 (textAt C.l (j+1)) 0 0 (placeOf C.l C.e j) []],(j+1+1+1),y2,K6,hR6,G6,by omega,by simp;omega,HY.out,?_⟩
        rw[HRR.out,HRY.out];cases y2<;>simp[prep]
     ·have c3n:zb C.l (j+1+1) ⟨#[59]⟩=false:=by simpa using c3
      simp only[zp,if_neg c3,andThen,Option.some.injEq] at hr;clear c3;have hrp:=HRR.out;rw[<-hr] at hrp;simp only[prep] at hrp;subst hrp;clear hr HRR;go_wp2_with (first|(go_at_call 78;with_reducible refine(hat).mono ?_;rintro e w1 ⟨rfl,hR1,hG1⟩)|(go_at_call 79;with_reducible refine(skip_yes C j ⟨#[118,97,114]⟩ _ hR1 c1).mono ?_;rintro e w2 ⟨rfl,hR2,hG2⟩)|(go_at_call 81;with_reducible refine(name_yes C (j+1) _ hR2 c2).mono ?_;rintro e w3 ⟨rfl,hR3,hG3⟩)|(go_at_call 80;with_reducible refine(leaf_any ⟨0,0,textAt C.l (j+1),0,0,placeOf C.l C.e j⟩ _ _ _ _).mono ?_;rintro e wl ⟨rfl,rfl⟩)|(at_builtin;refine wpList_append_leaf ⟨0,0,textAt C.l (j+1),0,0,placeOf C.l C.e j⟩ _ _ rfl (.tmp 28) (.tmp 34) rfl H0.out hR3 (grown_trans HG.out (grown_trans hG1 (grown_trans hG2 hG3))) (HK.out.grew hlt (grown_trans hG1 (grown_trans hG2 hG3))) (by omega) rfl rfl ?_;intro v5 w5 K5 hR5 hG5)|(go_at_call 82;with_reducible refine(wantnot_at C (j+1+1) ⟨#[59]⟩ _ _ (by simp) hR5 c3n).mono ?_;rintro e w6 ⟨ch,rfl,hF⟩));exact⟨rfl,_,rfl,hF.later hG5⟩
    ·have c2n:zO C.l (j+1)=false:=by simpa using c2
     simp only[yU,if_neg c2,andThen,Option.some.injEq] at hr;clear c2;have hrp:=HRR.out;rw[<-hr] at hrp;simp only[prep] at hrp;subst hrp;clear hr HRR;go_wp2_with (first|(go_at_call 78;with_reducible refine(hat).mono ?_;rintro e w1 ⟨rfl,hR1,hG1⟩)|(go_at_call 79;with_reducible refine(skip_yes C j ⟨#[118,97,114]⟩ _ hR1 c1).mono ?_;rintro e w2 ⟨rfl,hR2,hG2⟩)|(go_at_call 81;with_reducible refine(name_no C (j+1) _ hR2 c2n).mono ?_;rintro e w3 ⟨ch,rfl,hF⟩));exact⟨rfl,_,rfl,hF.later (grown_trans HG.out (grown_trans hG1 hG2))⟩
   ·rw[if_neg c1] at hr;have d1:zb C.l j ⟨#[118,97,114]⟩=false:=by simpa using c1
    clear c1;by_cases c4:zb C.l j ⟨#[97,114,114,97,121]⟩=true
    ·rw[if_pos c4] at hr;by_cases c2:zO C.l (j+1)=true
     ·simp only[yU,if_pos c2,andThen] at hr;by_cases c3:zb C.l (j+1+1) ⟨#[91]⟩=true
      ·simp only[zp,if_pos c3,andThen] at hr;by_cases c5:xK C.l (j+1+1+1)=true
       ·simp only[ym,if_pos c5,andThen] at hr;by_cases c6:zb C.l (j+1+1+1+1) ⟨#[93]⟩=true
        ·simp only[if_pos c6,andThen] at hr;by_cases c7:zb C.l (j+1+1+1+1+1) ⟨#[59]⟩=true
         ·simp only[if_pos c7,andThen] at hr;have HE:=Lib.hid hr;clear hr;go_wp2_with (first|(go_at_call 78;with_reducible refine(hat).mono ?_;rintro e w1 ⟨rfl,hR1,hG1⟩)|(go_at_call 79;with_reducible refine(skip_not C j ⟨#[118,97,114]⟩ _ hR1 d1).mono ?_;rintro e wv ⟨rfl,hRv,hGv⟩)|(go_at_call 79;with_reducible refine(skip_yes C j ⟨#[97,114,114,97,121]⟩ _ hRv c4).mono ?_;rintro e w2 ⟨rfl,hR2,hG2⟩)|(go_at_call 81;with_reducible refine(name_yes C (j+1) _ hR2 c2).mono ?_;rintro e w3 ⟨rfl,hR3,hG3⟩;have S3:StI C wr j w3.heap.size (w3.heap.size+1) 1 (textAt C.l (j+1)) 0 (placeOf C.l C.e j) (j+1+1) (w3.alloc (Obj.cells #[Value.int IntKind.i64 0,Value.int IntKind.i64 1,Value.string (textAt C.l (j+1)),Value.int IntKind.i64 0,Value.int IntKind.i64 0,Value.int IntKind.i64 (placeOf C.l C.e j)] 50)):=⟨HRd.out,hR3.alloc _,grown_trans (grown_trans hG1 (grown_trans hGv (grown_trans hG2 hG3))) (World.grownBy_alloc _ _ _),xj _ _ _ _ _ _ _ _,(grown_trans hG1 (grown_trans hGv (grown_trans hG2 hG3))).size,by simp,by simp⟩)|(go_at_call 82;with_reducible refine(want_at C (j+1+1) ⟨#[91]⟩ _ _ (by simp) S3.rd c3).mono ?_;rintro e w4 ⟨rfl,hR4,hG4⟩;have S4:=S3.call hR4 hG4)|(go_at_call 83;with_reducible refine(number_yes C (j+1+1+1) _ S4.rd c5).mono ?_;rintro e w5 ⟨rfl,hR5,hG5⟩;have S5:=S4.call hR5 hG5;have zc:=S5.six.c3;have zf:=S5.six.f3)|(go_at_call 82;with_reducible refine(want_at C (j+1+1+1+1) ⟨#[93]⟩ _ _ (by simp) (S5.setNum (numAtT C.l (j+1+1+1))).rd c6).mono ?_;rintro e w6 ⟨rfl,hR6,hG6⟩;have S6:=(S5.setNum (numAtT C.l (j+1+1+1))).call hR6 hG6;have a0:=S6.six.c0;have a1:=S6.six.c1;have a2:=S6.six.c2;have a3:=S6.six.c3;have a4:=S6.six.c4;have a5:=S6.six.c5)|(go_at_call 80;with_reducible refine(leaf_any ⟨0,1,textAt C.l (j+1),numAtT C.l (j+1+1+1),0,placeOf C.l C.e j⟩ _ _ _ _).mono ?_;rintro e wl ⟨rfl,rfl⟩)|(at_builtin;refine wpList_append_leaf ⟨0,1,textAt C.l (j+1),numAtT C.l (j+1+1+1),0,placeOf C.l C.e j⟩ _ _ rfl (.tmp 52) (.tmp 55) rfl H0.out S6.rd (grown_trans HG.out S6.grew) (HK.out.grew hlt S6.grew) (by omega) rfl rfl ?_;intro v7 w7 K7 hR7 hG7)|(go_at_call 82;with_reducible refine(want_at C (j+1+1+1+1+1) ⟨#[59]⟩ _ _ (by simp) hR7 c7).mono ?_;rintro e w8 ⟨rfl,hR8,hG8⟩));have hr:=HE.out;have K8:=K7.grew hlt hG8;have G8:=grown_trans hG7 hG8;cases hy:rd C g .prog (j+1+1+1+1+1+1) with
          |none=>rw[hy] at hr;simp[andThen] at hr
          |some y2=>
           rw[hy] at hr;have HY:=Lib.hid hy;have HRY:Hid (rr=prep [leafT 1 (textAt C.l (j+1)) (numAtT C.l (j+1+1+1)) 0 (placeOf C.l C.e j) []] y2):=by
            show rr=prep [leafT 1 (textAt C.l (j+1)) (numAtT C.l (j+1+1+1)) 0 (placeOf C.l C.e j) []] y2;cases y2<;>simp[andThen,prep] at hr⊢ <;>exact hr.symm
           clear hr hy;go_roundg g
           case measure=>omega
           case rel=>
            refine⟨ks++[leafT 1 (textAt C.l (j+1)) (numAtT C.l (j+1+1+1)) 0 (placeOf C.l C.e j) []],(j+1+1+1+1+1+1),y2,K8,hR8,G8,by omega,by simp;omega,HY.out,?_⟩
            rw[HRR.out,HRY.out];cases y2<;>simp[prep]
         ·have c7n:zb C.l (j+1+1+1+1+1) ⟨#[59]⟩=false:=by simpa using c7
          simp only[zp,if_neg c7,andThen,Option.some.injEq] at hr;clear c7;have hrp:=HRR.out;rw[<-hr] at hrp;simp only[prep] at hrp;subst hrp;clear hr HRR;go_wp2_with (first|(go_at_call 78;with_reducible refine(hat).mono ?_;rintro e w1 ⟨rfl,hR1,hG1⟩)|(go_at_call 79;with_reducible refine(skip_not C j ⟨#[118,97,114]⟩ _ hR1 d1).mono ?_;rintro e wv ⟨rfl,hRv,hGv⟩)|(go_at_call 79;with_reducible refine(skip_yes C j ⟨#[97,114,114,97,121]⟩ _ hRv c4).mono ?_;rintro e w2 ⟨rfl,hR2,hG2⟩)|(go_at_call 81;with_reducible refine(name_yes C (j+1) _ hR2 c2).mono ?_;rintro e w3 ⟨rfl,hR3,hG3⟩;have S3:StI C wr j w3.heap.size (w3.heap.size+1) 1 (textAt C.l (j+1)) 0 (placeOf C.l C.e j) (j+1+1) (w3.alloc (Obj.cells #[Value.int IntKind.i64 0,Value.int IntKind.i64 1,Value.string (textAt C.l (j+1)),Value.int IntKind.i64 0,Value.int IntKind.i64 0,Value.int IntKind.i64 (placeOf C.l C.e j)] 50)):=⟨HRd.out,hR3.alloc _,grown_trans (grown_trans hG1 (grown_trans hGv (grown_trans hG2 hG3))) (World.grownBy_alloc _ _ _),xj _ _ _ _ _ _ _ _,(grown_trans hG1 (grown_trans hGv (grown_trans hG2 hG3))).size,by simp,by simp⟩)|(go_at_call 82;with_reducible refine(want_at C (j+1+1) ⟨#[91]⟩ _ _ (by simp) S3.rd c3).mono ?_;rintro e w4 ⟨rfl,hR4,hG4⟩;have S4:=S3.call hR4 hG4)|(go_at_call 83;with_reducible refine(number_yes C (j+1+1+1) _ S4.rd c5).mono ?_;rintro e w5 ⟨rfl,hR5,hG5⟩;have S5:=S4.call hR5 hG5;have zc:=S5.six.c3;have zf:=S5.six.f3)|(go_at_call 82;with_reducible refine(want_at C (j+1+1+1+1) ⟨#[93]⟩ _ _ (by simp) (S5.setNum (numAtT C.l (j+1+1+1))).rd c6).mono ?_;rintro e w6 ⟨rfl,hR6,hG6⟩;have S6:=(S5.setNum (numAtT C.l (j+1+1+1))).call hR6 hG6;have a0:=S6.six.c0;have a1:=S6.six.c1;have a2:=S6.six.c2;have a3:=S6.six.c3;have a4:=S6.six.c4;have a5:=S6.six.c5)|(go_at_call 80;with_reducible refine(leaf_any ⟨0,1,textAt C.l (j+1),numAtT C.l (j+1+1+1),0,placeOf C.l C.e j⟩ _ _ _ _).mono ?_;rintro e wl ⟨rfl,rfl⟩)|(at_builtin;refine wpList_append_leaf ⟨0,1,textAt C.l (j+1),numAtT C.l (j+1+1+1),0,placeOf C.l C.e j⟩ _ _ rfl (.tmp 52) (.tmp 55) rfl H0.out S6.rd (grown_trans HG.out S6.grew) (HK.out.grew hlt S6.grew) (by omega) rfl rfl ?_;intro v7 w7 K7 hR7 hG7)|(go_at_call 82;with_reducible refine(wantnot_at C (j+1+1+1+1+1) ⟨#[59]⟩ _ _ (by simp) hR7 c7n).mono ?_;rintro e w8 ⟨ch,rfl,hF⟩));exact⟨rfl,_,rfl,hF.later hG7⟩
        ·have c6n:zb C.l (j+1+1+1+1) ⟨#[93]⟩=false:=by simpa using c6
         simp only[zp,if_neg c6,andThen,Option.some.injEq] at hr;clear c6;have hrp:=HRR.out;rw[<-hr] at hrp;simp only[prep] at hrp;subst hrp;clear hr HRR;go_wp2_with (first|(go_at_call 78;with_reducible refine(hat).mono ?_;rintro e w1 ⟨rfl,hR1,hG1⟩)|(go_at_call 79;with_reducible refine(skip_not C j ⟨#[118,97,114]⟩ _ hR1 d1).mono ?_;rintro e wv ⟨rfl,hRv,hGv⟩)|(go_at_call 79;with_reducible refine(skip_yes C j ⟨#[97,114,114,97,121]⟩ _ hRv c4).mono ?_;rintro e w2 ⟨rfl,hR2,hG2⟩)|(go_at_call 81;with_reducible refine(name_yes C (j+1) _ hR2 c2).mono ?_;rintro e w3 ⟨rfl,hR3,hG3⟩;have S3:StI C wr j w3.heap.size (w3.heap.size+1) 1 (textAt C.l (j+1)) 0 (placeOf C.l C.e j) (j+1+1) (w3.alloc (Obj.cells #[Value.int IntKind.i64 0,Value.int IntKind.i64 1,Value.string (textAt C.l (j+1)),Value.int IntKind.i64 0,Value.int IntKind.i64 0,Value.int IntKind.i64 (placeOf C.l C.e j)] 50)):=⟨HRd.out,hR3.alloc _,grown_trans (grown_trans hG1 (grown_trans hGv (grown_trans hG2 hG3))) (World.grownBy_alloc _ _ _),xj _ _ _ _ _ _ _ _,(grown_trans hG1 (grown_trans hGv (grown_trans hG2 hG3))).size,by simp,by simp⟩)|(go_at_call 82;with_reducible refine(want_at C (j+1+1) ⟨#[91]⟩ _ _ (by simp) S3.rd c3).mono ?_;rintro e w4 ⟨rfl,hR4,hG4⟩;have S4:=S3.call hR4 hG4)|(go_at_call 83;with_reducible refine(number_yes C (j+1+1+1) _ S4.rd c5).mono ?_;rintro e w5 ⟨rfl,hR5,hG5⟩;have S5:=S4.call hR5 hG5;have zc:=S5.six.c3;have zf:=S5.six.f3)|(go_at_call 82;with_reducible refine(wantnot_at C (j+1+1+1+1) ⟨#[93]⟩ _ _ (by simp) (S5.setNum (numAtT C.l (j+1+1+1))).rd c6n).mono ?_;rintro e w6 ⟨ch,rfl,hF⟩));exact⟨rfl,_,rfl,hF.later (grown_trans HG.out (S5.setNum (numAtT C.l (j+1+1+1))).grew)⟩
       ·have c5n:xK C.l (j+1+1+1)=false:=by simpa using c5
        simp only[ym,if_neg c5,andThen,Option.some.injEq] at hr;clear c5;have hrp:=HRR.out;rw[<-hr] at hrp;simp only[prep] at hrp;subst hrp;clear hr HRR;go_wp2_with (first|(go_at_call 78;with_reducible refine(hat).mono ?_;rintro e w1 ⟨rfl,hR1,hG1⟩)|(go_at_call 79;with_reducible refine(skip_not C j ⟨#[118,97,114]⟩ _ hR1 d1).mono ?_;rintro e wv ⟨rfl,hRv,hGv⟩)|(go_at_call 79;with_reducible refine(skip_yes C j ⟨#[97,114,114,97,121]⟩ _ hRv c4).mono ?_;rintro e w2 ⟨rfl,hR2,hG2⟩)|(go_at_call 81;with_reducible refine(name_yes C (j+1) _ hR2 c2).mono ?_;rintro e w3 ⟨rfl,hR3,hG3⟩;have S3:StI C wr j w3.heap.size (w3.heap.size+1) 1 (textAt C.l (j+1)) 0 (placeOf C.l C.e j) (j+1+1) (w3.alloc (Obj.cells #[Value.int IntKind.i64 0,Value.int IntKind.i64 1,Value.string (textAt C.l (j+1)),Value.int IntKind.i64 0,Value.int IntKind.i64 0,Value.int IntKind.i64 (placeOf C.l C.e j)] 50)):=⟨HRd.out,hR3.alloc _,grown_trans (grown_trans hG1 (grown_trans hGv (grown_trans hG2 hG3))) (World.grownBy_alloc _ _ _),xj _ _ _ _ _ _ _ _,(grown_trans hG1 (grown_trans hGv (grown_trans hG2 hG3))).size,by simp,by simp⟩)|(go_at_call 82;with_reducible refine(want_at C (j+1+1) ⟨#[91]⟩ _ _ (by simp) S3.rd c3).mono ?_;rintro e w4 ⟨rfl,hR4,hG4⟩;have S4:=S3.call hR4 hG4)|(go_at_call 83;with_reducible refine(number_no C (j+1+1+1) _ S4.rd c5n).mono ?_;rintro e w5 ⟨ch,rfl,hF⟩));exact⟨rfl,_,rfl,hF.later (grown_trans HG.out S4.grew)⟩
      ·have c3n:zb C.l (j+1+1) ⟨#[91]⟩=false:=by simpa using c3
       simp only[zp,if_neg c3,andThen,Option.some.injEq] at hr;clear c3;have hrp:=HRR.out;rw[<-hr] at hrp;simp only[prep] at hrp;subst hrp;clear hr HRR;go_wp2_with (first|(go_at_call 78;with_reducible refine(hat).mono ?_;rintro e w1 ⟨rfl,hR1,hG1⟩)|(go_at_call 79;with_reducible refine(skip_not C j ⟨#[118,97,114]⟩ _ hR1 d1).mono ?_;rintro e wv ⟨rfl,hRv,hGv⟩)|(go_at_call 79;with_reducible refine(skip_yes C j ⟨#[97,114,114,97,121]⟩ _ hRv c4).mono ?_;rintro e w2 ⟨rfl,hR2,hG2⟩)|(go_at_call 81;with_reducible refine(name_yes C (j+1) _ hR2 c2).mono ?_;rintro e w3 ⟨rfl,hR3,hG3⟩;have S3:StI C wr j w3.heap.size (w3.heap.size+1) 1 (textAt C.l (j+1)) 0 (placeOf C.l C.e j) (j+1+1) (w3.alloc (Obj.cells #[Value.int IntKind.i64 0,Value.int IntKind.i64 1,Value.string (textAt C.l (j+1)),Value.int IntKind.i64 0,Value.int IntKind.i64 0,Value.int IntKind.i64 (placeOf C.l C.e j)] 50)):=⟨HRd.out,hR3.alloc _,grown_trans (grown_trans hG1 (grown_trans hGv (grown_trans hG2 hG3))) (World.grownBy_alloc _ _ _),xj _ _ _ _ _ _ _ _,(grown_trans hG1 (grown_trans hGv (grown_trans hG2 hG3))).size,by simp,by simp⟩)|(go_at_call 82;with_reducible refine(wantnot_at C (j+1+1) ⟨#[91]⟩ _ _ (by simp) S3.rd c3n).mono ?_;rintro e w4 ⟨ch,rfl,hF⟩));exact⟨rfl,_,rfl,hF.later (grown_trans HG.out S3.grew)⟩
     ·have c2n:zO C.l (j+1)=false:=by simpa using c2
      simp only[yU,if_neg c2,andThen,Option.some.injEq] at hr;clear c2;have hrp:=HRR.out;rw[<-hr] at hrp;simp only[prep] at hrp;subst hrp;clear hr HRR;go_wp2_with (first|(go_at_call 78;with_reducible refine(hat).mono ?_;rintro e w1 ⟨rfl,hR1,hG1⟩)|(go_at_call 79;with_reducible refine(skip_not C j ⟨#[118,97,114]⟩ _ hR1 d1).mono ?_;rintro e wv ⟨rfl,hRv,hGv⟩)|(go_at_call 79;with_reducible refine(skip_yes C j ⟨#[97,114,114,97,121]⟩ _ hRv c4).mono ?_;rintro e w2 ⟨rfl,hR2,hG2⟩)|(go_at_call 81;with_reducible refine(name_no C (j+1) _ hR2 c2n).mono ?_;rintro e w3 ⟨ch,rfl,hF⟩));exact⟨rfl,_,rfl,hF.later (grown_trans HG.out (grown_trans hG1 (grown_trans hGv hG2)))⟩
    ·rw[if_neg c4] at hr;have d4:zb C.l j ⟨#[97,114,114,97,121]⟩=false:=by simpa using c4
     clear c4;have hSt:=(stmts_all C g).2.2;cases hx:rd C g .stmts j with
     |none=>rw[hx] at hr;cases hr
     |some y=>
      rw[hx] at hr;have hS:=fun W a=>hSt j W y hx a;clear hSt;cases y with
      |no p=>
       simp only[andThen,Option.some.injEq] at hr;have hS:=fun W a=>zF (hS W a);have hrp:=HRR.out;rw[<-hr] at hrp;simp only[prep] at hrp;subst hrp;clear hr HRR hx;go_wp2_with (first|(go_at_call 78;with_reducible refine(hat).mono ?_;rintro e w1 ⟨rfl,hR1,hG1⟩)|(go_at_call 79;with_reducible refine(skip_not C j ⟨#[118,97,114]⟩ _ hR1 d1).mono ?_;rintro e wv ⟨rfl,hRv,hGv⟩)|(go_at_call 79;with_reducible refine(skip_not C j ⟨#[97,114,114,97,121]⟩ _ hRv d4).mono ?_;rintro e w2 ⟨rfl,hR2,hG2⟩)|(go_at_call 84;with_reducible refine(hS _ hR2).mono ?_;rintro e w4 ⟨ch,rfl,hF⟩));exact⟨rfl,_,rfl,hF.later (grown_trans HG.out (grown_trans hG1 (grown_trans hGv hG2)))⟩
      |ok ts j2=>
       have hS:=fun W a=>kH (hS W a);have hcnt:=za2 hx;have HE:=Lib.hid hr;clear hr hx;go_wp2_with (first|(go_at_call 78;with_reducible refine(hat).mono ?_;rintro e w1 ⟨rfl,hR1,hG1⟩)|(go_at_call 79;with_reducible refine(skip_not C j ⟨#[118,97,114]⟩ _ hR1 d1).mono ?_;rintro e wv ⟨rfl,hRv,hGv⟩)|(go_at_call 79;with_reducible refine(skip_not C j ⟨#[97,114,114,97,121]⟩ _ hRv d4).mono ?_;rintro e w2 ⟨rfl,hR2,hG2⟩)|(go_at_call 84;with_reducible refine(hS _ hR2).mono ?_;rintro e w4 ⟨v4,rfl,K4,hR4,hG4⟩)|(at_builtin;refine wpList_append_kids (wk:=w2) rfl (.tmp 8) (.tmp 10) rfl H0.out hR4 (grown_trans HG.out (grown_trans hG1 (grown_trans hGv (grown_trans hG2 hG4)))) (HK.out.grew hlt (grown_trans hG1 (grown_trans hGv (grown_trans hG2 hG4)))) (fun k hk=>((HK.out.grew hlt (grown_trans hG1 (grown_trans hGv hG2))).row hlt hk).2.2) (grown_trans HG.out (grown_trans hG1 (grown_trans hGv hG2))).size K4 (by have:=hR4.le;omega) rfl rfl ?_;intro v5 w5 K5 hR5 hG5));have hr:=HE.out;simp only[andThen] at hr;have HK5:=Lib.hid K5;have HR5:=Lib.hid hR5;have HG5:=Lib.hid hG5;obtain⟨⟨b0,cp,g0,q0,_,hcap,_,_⟩,q1,_,_,hle2,hlen2,_,_,_⟩:=hR5
       have hF5:=fun m=>kE C j2 _ (HR5.out.drewN m);clear K5 hG5;by_cases hlt2:j2<C.l.length
       ·rw[if_pos hlt2] at hr;have hrp:=HRR.out;rw[<-Option.some.inj hr] at hrp;simp only[prep] at hrp;subst hrp;have hdd:decide ((j2:Int)<(C.l.length:Int))=true:=by simp;omega
        clear hr HRR HE;go_quiet (fail)
        go_wp2_with (go_at_call 85;refine(hF5 _).mono ?_;rintro e w' ⟨ch,rfl,hF2⟩);exact⟨rfl,_,rfl,hF2.later (grown_trans HG5.out (Grew.drewN w5 _))⟩
       ·rw[if_neg hlt2] at hr;have hrp:=HRR.out;rw[<-Option.some.inj hr] at hrp;simp only[prep] at hrp;subst hrp;have hdd:decide ((j2:Int)<(C.l.length:Int))=false:=by simp;omega
        clear hr HRR HE;go_quiet (fail)
        go_wp2_with fail;go_ret;exact⟨_,j2,rfl,HK5.out.grew hlt (Grew.drewN w5 _),HR5.out.drewN _,grown_trans HG5.out (Grew.drewN w5 _)⟩
mutual
def flatT:Tr->Int->List Nd
 | .mk n ks,d=>⟨d,n.kind,n.name,n.num,n.op,n.at_⟩::flatTs ks (d+1)
def flatTs:List Tr->Int->List Nd
 |[],_=>[]
 |t::ts,d=>flatT t d++flatTs ts d
end
def ndCells(l:List Nd):List Value:=l.flatMap Nd.cells
theorem ndCells_length(l:List Nd):(ndCells l).length=l.length*6:=by
 induction l with
 |nil=>rfl
 |cons x l ih=>simp only[ndCells,List.flatMap_cons,List.length_append,List.length_cons] at ih⊢;rw[ih];simp[Nd.cells];omega
theorem zZ(a b:List Tr)(d:Int):flatTs (a++b) d=flatTs a d++flatTs b d:=by
 induction a with
 |nil=>simp[flatTs]
 |cons x a ih=>simp[flatTs,ih]
theorem zjB(w:World)(n:Nd):∀(j:Nat) (u:Value),n.cells[j]? =some u->(w.alloc (.cells #[.int .i64 n.depth, .int .i64 n.kind, .string n.name, .int .i64 n.num, .int .i64 n.op, .int .i64 n.at_] 50)).cell? ((⟨w.heap.size,0,none⟩:Addr).add j)=some u:=by
 intro j u hj
 match j,hj with
 |0,hj=>simp[Nd.cells] at hj;subst hj;simp[go_sem,Addr.add]
 |1,hj=>simp[Nd.cells] at hj;subst hj;simp[go_sem,Addr.add]
 |2,hj=>simp[Nd.cells] at hj;subst hj;simp[go_sem,Addr.add]
 |3,hj=>simp[Nd.cells] at hj;subst hj;simp[go_sem,Addr.add]
 |4,hj=>simp[Nd.cells] at hj;subst hj;simp[go_sem,Addr.add]
 |5,hj=>simp[Nd.cells] at hj;subst hj;simp[go_sem,Addr.add]
 |j+6,hj=>simp[Nd.cells] at hj
theorem zen(n:Nd):∀u∈n.cells,u.oneCell'=true:=by
 intro u hu;simp only[Nd.cells,List.mem_cons,List.not_mem_nil,or_false] at hu;rcases hu with rfl|rfl|rfl|rfl|rfl|rfl<;>rfl
def FlatC(A B:Nat)(w0:World)(p:Nat)(t:Tr):Prop:=
 ∀(w:World) (v:Value) (l:List Nd) (d:Int),(∀k,A<=k->k<B->w.heap[k]? =w0.heap[k]?)->B<=w.heap.size->w.ownsRow B 50 6 v l.length (ndCells l)->0<=d->d+(flatT t 0).length<=100000->l.length+(flatT t 0).length<=100000->
  Calls Tryz.prog 44 #[.pointer (some ⟨p,0,none⟩),v, .int .i64 d] w fun e w'=>∃v',e= .returned v'/\Below B w w'/\w'.ownsRow B 50 6 v' (l++flatT t d).length (ndCells (l++flatT t d))
mutual
theorem qE(d e:Int):∀t:Tr,(flatT t d).length=(flatT t e).length
 | .mk n ks=>by simp[flatT,xy (d+1) (e+1) ks]
theorem xy(d e:Int):∀ts:List Tr,(flatTs ts d).length=(flatTs ts e).length
 |[]=>rfl
 |t::ts=>by simp[flatTs,qE d e t,xy d e ts]
end
theorem vw(d:Int):∀ts:List Tr,ts.length<=(flatTs ts d).length
 |[]=>Nat.le_refl _
 | .mk n ks::ts=>by have:=vw d ts;simp[flatTs,flatT];omega
theorem zgf(A B:Nat)(w0:World)(hB0:B<=w0.heap.size)(p:Nat)(t:Tr)(h:TrAt (fun k=>B<=k\/k<A) w0 p t):FlatC A B w0 p t:=by
 induction h with
 |mk p n ks b cap g q hp hpr hb hgr hcap hc hk ih=>
  intro w v l d hbw hBw hown hd hdn hln;have hpB:p<B:=by omega
  have hpA:A<=p:=by omega
  have hpw:w.heap[p]? =some (.cells #[.int .i64 n.depth, .int .i64 n.kind, .string n.name, .int .i64 n.num, .int .i64 n.op, .int .i64 n.at_, .slice b ks.length cap] 148 (0,0)):=(hbw p hpA hpB).trans hp;have c0:=cell_put hpw (o:=0) rfl;have c1:=cell_put hpw (o:=1) rfl;have c2:=cell_put hpw (o:=2) rfl;have c3:=cell_put hpw (o:=3) rfl;have c4:=cell_put hpw (o:=4) rfl;have c5:=cell_put hpw (o:=5) rfl;have c6:=cell_put hpw (o:=6) rfl;have hpl:p<w.heap.size:=by omega
  obtain⟨ti,hi,hz0,hz1,hz2⟩:=info_parts zaw
  have HO:=Lib.hid hown;have HB:=Lib.hid hbw;have HC:=Lib.hid hc;have HI:=Lib.hid ih;have HG:=Lib.hid hgr;have HBB:=Lib.hid hb;have hlen0:(flatT (.mk n ks) 0).length=1+(flatTs ks 1).length:=by simp[flatT];omega
  clear hown hbw hc ih hp hpw hk hgr hb;go_enter Tryz.func44,Tryz.ntmps44;go_wp2_with (at_builtin;refine wpList_append_own _ rfl (.tmp 16) (.tmp 18) 25 rfl B 50 ti _ 6 56 Tryz.underlying25 hi hz0 hz1 hz2 rfl (by decide) _ _ _ rfl ((HO.out.alloc _).alloc _) ⟨w.heap.size+1,0,none⟩ 1 1 (Nd.cells ⟨d,n.kind,n.name,n.num,n.op,n.at_⟩) rfl rfl (by simpa using zjB (w.alloc (.cells #[.int .i64 d, .int .i64 n.kind, .string n.name, .int .i64 n.num, .int .i64 n.op, .int .i64 n.at_] 50)) ⟨d,n.kind,n.name,n.num,n.op,n.at_⟩) (zen _) (by simp[maxLen];omega) (by omega) (by simp;omega) ?_;intro v1 w1 hown1 hgrow1 _;have B1:Below B w w1:=(((Below.refl B w).alloc hBw _).alloc (by simp;omega) _).grown hgrow1 (by simp;omega) (fun k hk=>(HO.out.lt k hk).1);have c6b:w1.cell? ⟨p,6,none⟩=some (.slice b ks.length cap):=(B1.cell (p:=⟨p,6,none⟩) hpB).trans c6);have HO1:=Lib.hid hown1;have HB1:=Lib.hid B1;have hBw1:B<=w1.heap.size:=Nat.le_trans hBw B1.size;clear hown1 hgrow1 B1 c0 c1 c2 c3 c4 c5 c6 c6b;go_loopg [1,25] ks.length (fun gg x i wr=>∃k:Nat,i= .int .i64 k/\k<=ks.length/\gg=ks.length-k/\Below B w wr/\B<=wr.heap.size/\wr.ownsRow B 50 6 x (l++⟨d,n.kind,n.name,n.num,n.op,n.at_⟩::flatTs (ks.take k) (d+1)).length (ndCells (l++⟨d,n.kind,n.name,n.num,n.op,n.at_⟩::flatTs (ks.take k) (d+1))))
  case atStart=>exact⟨0,rfl,Nat.zero_le _,rfl,HB1.out,hBw1,by simpa [flatTs,ndCells] using HO1.out⟩
  case round=>
   obtain⟨k,rfl,hk,hgg,hbr,hbs,hor⟩:=hrel
   have HOR:=Lib.hid hor;have HBR:=Lib.hid hbr;have HGG:=Lib.hid hgg;clear hor hbr hgg;by_cases hlt:k<ks.length
   ·have hkb:k<100000:=by have:=vw 1 ks;omega
    obtain⟨u,hu⟩:∃u,ks[k]? =some u:=⟨_,List.getElem?_eq_getElem hlt⟩
    have hne:ks≠[]:=by rintro rfl;simp at hlt
    have hbe:=HBB.out hne;subst hbe;have hgB:g<B:=by have:=HG.out hne;omega
    have hgA:A<=g:=by have:=HG.out hne;omega
    have hcell:wr.cell? ⟨g,k,none⟩=some (.pointer (some ⟨q k,0,none⟩)):=(HBR.out.cell (p:=⟨g,k,none⟩) hgB).trans ((World.cell?_of_block (a:=⟨g,k,none⟩) (HB.out g hgA hgB)).trans (HC.out k u hu));have hcnt:(flatTs (ks.take k) 1).length+(flatT u 1).length<=(flatTs ks 1).length:=by
     have e:ks=ks.take k++u::ks.drop (k+1):=by
      rw[List.getElem?_eq_getElem hlt] at hu;rw[<-Option.some.inj hu,List.getElem_cons_drop,List.take_append_drop]
     have e2:=congrArg (fun x=>(flatTs x 1).length) e;simp only[zZ,flatTs,List.length_append] at e2;omega
    have l1:=xy (d+1) 1 (ks.take k);have l2:=qE (d+1) 1 u;have l3:=qE 0 1 u;have hcall:=HI.out k u hu wr _ _ (d+1) (fun x h1 h2=>(HBR.out.block x h2).trans (HB.out x h1 h2)) hbs HOR.out (by omega) (by omega) (by simp only[List.length_append,List.length_cons];omega)
    have HU:=Lib.hid hu;clear hu hcnt l1 l2 l3;go_wp2_with (go_at_call 44;refine(hcall).mono ?_;rintro e w' ⟨v',rfl,hb',ho'⟩);go_roundg (ks.length-(k+1))
    case measure=>have:=HGG.out;omega
    case rel=>
     refine⟨k+1,by go_num,by omega,rfl,HBR.out.trans hb',Nat.le_trans hbs hb'.size,?_⟩
     have e:ks.take (k+1)=ks.take k++[u]:=by rw[List.take_add_one,HU.out];rfl
     rw[e,zZ];simpa [flatTs] using ho'
   ·have hkk:k=ks.length:=by omega
    have e:ks.take k=ks:=by rw[hkk];exact List.take_length
    have HE:=Lib.hid e;clear hkk e;go_wp2;go_ret;refine⟨_,rfl,HBR.out,?_⟩;have h:=HOR.out;rw[HE.out] at h;simpa [flatT] using h
theorem zbj(p q:Addr)(w:World):
 CallsD Tryz.prog 42 #[.pointer (some p), .pointer (some q)] .returning w fun e u' w'=>e= .returned (.tuple #[])/\u'= .returning/\w'=w:=by
 refine callsD_of_wpS Tryz.func42 rfl fun c₀ cs hu=>?_;apply wpS_seq;apply wpS_region;simp[wpOpsS,go_sem,recoverD,hu,Tryz.ntmps42,Exit.thenS];refine wpS_of_wp ?_;simp only[Array.replicate_succ,Array.replicate_zero,List.push_toArray,List.append_toArray,List.nil_append,List.cons_append,List.setIfInBounds_toArray,List.set_cons_succ,List.set_cons_zero];go_wp2;cases c₀;simp_all [bodyPostS,results,Tryz.results42]
theorem pcatch_panicking(b g:Nat)(v0:Option Addr)(n0 m0:Nat)(w:World)(c1:w.cell? ⟨b,0,none⟩=some (.slice v0 n0 m0))(c2:w.cell? ⟨b+1,0,none⟩=some .nilIface)(fp:w.frozen? ⟨b,0,none⟩=false)(fq:w.frozen? ⟨b+1,0,none⟩=false)(hl:b+1<w.heap.size):
 CallsD Tryz.prog 42 #[.pointer (some ⟨b,0,none⟩), .pointer (some ⟨b+1,0,none⟩)] (.panicking [{v:= .iface 71 (.pointer (some ⟨g,0,none⟩)),recovered:=false}]) w fun e u' w'=>e= .returned (.tuple #[])/\u'= .panicking [{v:= .iface 71 (.pointer (some ⟨g,0,none⟩)),recovered:=true}]/\w'=(w.setCell ⟨b,0,none⟩ (.slice none 0 0)).setCell ⟨b+1,0,none⟩ (.iface 71 (.pointer (some ⟨g,0,none⟩))):=by
 have ta:∀w,(Instr.typeAssert (.iface 71 (.pointer (some ⟨g,0,none⟩))) 20 71 true).run Tryz.prog w= .ok (.tuple #[.pointer (some ⟨g,0,none⟩), .bool true]) w:=fun w=>by kernel_rfl
 refine callsD_of_wpS Tryz.func42 rfl fun c₀ cs hu=>?_;apply wpS_seq;apply wpS_region;simp[wpOpsS,go_sem,recoverD,hu,Tryz.ntmps42,Exit.thenS,ta];refine wpS_of_wp ?_;simp only[Array.replicate_succ,Array.replicate_zero,List.push_toArray,List.append_toArray,List.nil_append,List.cons_append,List.setIfInBounds_toArray,List.set_cons_succ,List.set_cons_zero];go_wp2;cases c₀;simp_all [bodyPostS,results,Tryz.results42]
def Le{α:Type}(x y:Option (Res α)):Prop:=∀r,x=some r->y=some r
theorem Le.refl{α:Type}(x:Option (Res α)):Le x x:=fun _ h=>h
theorem wQ{α β:Type}{x y:Option (Res α)}{F G:α->Nat->Option (Res β)}(h:Le x y)(k:∀a j,Le (F a j) (G a j)):Le (andThen x F) (andThen y G):=by
 intro r hr;cases x with
 |none=>cases hr
 |some z=>
  rw[h z rfl];cases z with
  |no p=>exact hr
  |ok a j=>exact k a j r hr
theorem zau{α:Type}{c:Prop}[Decidable c]{x y x' y':Option (Res α)}(h:c->Le x x')(k:¬c->Le y y'):Le (if c then x else y) (if c then x' else y'):=by
 by_cases hc:c
 ·rw[if_pos hc,if_pos hc];exact h hc
 ·rw[if_neg hc,if_neg hc];exact k hc
theorem zd3{t:Tr->Option (Res (List Tr))}{t':Tr->Option (Res (List Tr))}(ts:List Tr)(h:∀x,Le (t x) (t' x)):Le (match ts with|[x]=>t x|_=>none) (match ts with|[x]=>t' x|_=>none):=by
 match ts with
 |[]=>exact Le.refl _
 |[x]=>exact h x
 |_::_::_=>exact Le.refl _
theorem zhv(C:Ctx):∀(f:Nat) (nt:NT) (i:Nat),Le (rd C f nt i) (rd C (f+1) nt i):=by
 intro f;induction f with
 |zero=>intro nt i r h;cases h
 |succ f ih=>
  intro nt i;cases nt with
  |rest k left=>
   rw[rd,rd];cases opAt k C.l i with
   |none=>exact Le.refl _
   |some op=>exact wQ (ih _ _) fun ts j=>zd3 ts fun x=>zau (fun _=>Le.refl _) fun _=>ih _ _
  |row k=>rw[rd,rd];exact zau (fun _=>ih _ _) fun _=>wQ (ih _ _) fun ts j=>zd3 ts fun x=>ih _ _
  |_=>
   rw[rd,rd]
   repeat' first
    |exact Le.refl _
    |exact ih _ _
    |(refine wQ ?_ fun a j=>?_)
    |(refine zau (fun _=>?_) fun _=>?_)
theorem ziD(C:Ctx)(f d:Nat)(nt:NT)(i:Nat):Le (rd C f nt i) (rd C (f+d) nt i):=by
 induction d with
 |zero=>exact Le.refl _
 |succ d ih=>exact fun r h=>zhv C (f+d) nt i r (ih r h)
theorem yX(C:Ctx){f f':Nat}(hf:f<=f')(nt:NT)(i:Nat):Le (rd C f nt i) (rd C f' nt i):=by
 obtain⟨d,rfl⟩:=Nat.exists_eq_add_of_le hf
 exact ziD C f d nt i
theorem zhw(C:Ctx){f f':Nat}{nt:NT}{i:Nat}{r r':Res (List Tr)}(h:rd C f nt i=some r)(h':rd C f' nt i=some r'):r=r':=by
 have h1:=yX C (Nat.le_max_left f f') nt i r h;have h2:=yX C (Nat.le_max_right f f') nt i r' h';rw[h1] at h2;exact Option.some.inj h2
def Mon{α:Type}(X:Nat->Option (Res α)):Prop:=∀f f',f<=f'->Le (X f) (X f')
def Ex{α:Type}(X:Nat->Option (Res α)):Prop:=∃f r,X f=some r
def rank:NT->Nat
 | .row k=>2*(6-k)+3
 | .rest _ _=>0
 | .unary=>2
 | .atom=>1
 | .stmt=>16
 | .stmts=>17
 | .block=>18
 | .prog=>18
def meas(C:Ctx)(nt:NT)(i:Nat):Nat:=(C.l.length-i)*20+rank nt
def nodes(ts:List Tr):Nat:=(flatTs ts 0).length
theorem gv:nodes []=0:=rfl
theorem vl(a b:List Tr):nodes (a++b)=nodes a+nodes b:=by simp[nodes,zZ]
theorem uQ(t:Tr)(b:List Tr):nodes (t::b)=nodes [t]+nodes b:=vl [t] b
theorem jw(k:Int)(n:ByteArray)(x o a:Int)(ks:List Tr):nodes [leafT k n x o a ks]=1+nodes ks:=by
 simp only[nodes,flatTs,leafT,flatT,List.length_append,List.length_cons,List.length_nil,xy (0+1) 0 ks];omega
def Cn(i m:Nat)(x:Option (Res (List Tr))):Prop:=∀ts j,x=some (.ok ts j)->i+nodes ts<=j+m
def jT:NT->Nat
 | .rest _ left=>nodes [left]
 |_=>0
theorem zhm{α β:Type}{x:Option (Res α)}{F:α->Nat->Option (Res β)}{b:β}{j:Nat}(h:andThen x F=some (.ok b j)):∃a k,x=some (.ok a k)/\F a k=some (.ok b j):=by
 cases x with
 |none=>cases h
 |some y=>cases y with
  |no p=>simp[andThen] at h
  |ok a k=>exact⟨a,k,rfl,h⟩
theorem zhd{C:Ctx}{s:ByteArray}{i k:Nat}{u:Unit}(h:zp C s i=some (.ok u k)):k=i+1:=by
 unfold zp at h;split at h
 ·cases h;rfl
 ·cases h
theorem name_ok{C:Ctx}{i k:Nat}{u:ByteArray}(h:yU C i=some (.ok u k)):k=i+1:=by
 unfold yU at h;split at h
 ·cases h;rfl
 ·cases h
theorem number_ok{C:Ctx}{i k:Nat}{u:Int}(h:ym C i=some (.ok u k)):k=i+1:=by
 unfold ym at h;split at h
 ·cases h;rfl
 ·cases h
theorem cn_then{α:Type}{i m:Nat}{x:Option (Res α)}{F:α->Nat->Option (Res (List Tr))}(k:∀a j,x=some (.ok a j)->Cn i m (F a j)):Cn i m (andThen x F):=by
 intro ts j h;obtain⟨a,k',h1,h2⟩:=zhm h
 exact k a k' h1 ts j h2
theorem gT{i m k:Nat}{ts:List Tr}(h:i+nodes ts<=k+m):Cn i m (some (.ok ts k)):=fun _ _ e=>by cases e;exact h
theorem cn_no{i m:Nat}{p:Int}:Cn i m (some (.no p)):=fun _ _ e=>by cases e
theorem cn_none{i m:Nat}:Cn i m none:=fun _ _ e=>by cases e
theorem rd_nodes(C:Ctx):∀(f:Nat) (nt:NT) (i:Nat),Cn i (jT nt) (rd C f nt i):=by
 intro f;induction f with
 |zero=>intro nt i;exact cn_none
 |succ f ih=>
  intro nt i;cases nt with
  |row k=>
   simp only[rd];split
   ·exact ih .unary i
   ·refine cn_then fun a j h=>?_;have h1:=ih _ _ _ _ h;split
    ·intro ts m h2;have h3:=ih _ _ _ _ h2;simp only[jT] at h1 h3⊢;omega
    ·exact cn_none
  |rest k left=>
   simp only[rd];split
   ·exact gT (by simp[jT])
   ·refine cn_then fun a j h=>?_;have h1:=ih _ _ _ _ h;simp only[jT] at h1;split
    ·have e2:=uQ left;split
     ·refine gT ?_;rw[jw,e2];simp only[jT];omega
     ·intro ts m h2;have h3:_+nodes ts<=m+nodes [_]:=ih _ _ _ _ h2;rw[jw,e2] at h3;show i+nodes ts<=m+nodes [left];omega
    ·exact cn_none
  |_=>
   simp only[rd]
   repeat' first
    |exact cn_none
    |exact cn_no
    |(refine cn_then fun _ _ h=>?_;first|(have h1:=zhd h;clear h)|(have h1:=name_ok h;clear h)|(have h1:=number_ok h;clear h)|(have h1:=ih _ _ _ _ h;simp only[jT] at h1;clear h))
    |(exact ih _ _)
    |(refine gT ?_;simp only[jT,jw,vl,gv];omega)
    |(refine gT ?_;rw[uQ,jw];simp only[jT,gv];omega)
    |split
open Go.RowKit Go.Bsd Go.Conc
def jd(s:ByteArray)(c:Nat):Act:=
 {tmps:= #[.string s,undef, .slice none 0 0, .int .i64 0, .int .i64 0, .chan (some c),undef,undef,undef, .string s, .int .i64 s.size, .bool false, .chan (some c),undef,undef,undef,undef,undef,undef,undef,undef,undef,undef,undef,undef,undef,undef,undef,undef,undef,undef,undef,undef,undef,undef,undef],defers:=[]}
theorem zhl:∃id,tkGo= .region id (zw tkGo) false/\(zw tkGo).size=3:=⟨_,rfl,rfl⟩
def vu:Oper:={dst:=none,op:=Op.go {callee:=Callee.value (Operand.func 77),args:= #[Operand.tmp 13,Operand.tmp 14],argTypes:= #[9,188]},type:=0,pos:= "lex.go:116",after:= #[{on:=0,ground:=Ground.data},{on:=1,ground:=Ground.data}],guard:=none}
theorem zgb(s:ByteArray)(c:Nat)(cs:List Frame)(w:World):
 stepG Tryz.prog true (Go.Conc.G ((base0 40).at (goAct s c) [.inRegion (zw tkGo) [2], .code tk4]) cs) w= .spawn (Go.Conc.G (frc s c) cs) (born Tryz.prog (qz s c)) w #[]:=by
 have hr:(execOp (goAct s c).eval vu).runT Tryz.prog w #[]=(.ok (.spawn (qz s c)) w,#[]):=by
  simp[execOp,vu,resolve,qc,goAct,qz,Sem.runT,Deferred.ofValue,Act.eval]
 have he1:(execOp (goAct s c).eval vu).run Tryz.prog w= .ok (.spawn (qz s c)) w:=by rw[<-Sem.runT_fst (es:= #[]),hr]
 have he2:(execOp (goAct s c).eval vu).events Tryz.prog w #[]= #[]:=by unfold Sem.events;rw[hr]
 have:=stepG_spawn (P:=Tryz.prog) (main:=true) (b:=base0 40) (a:=goAct s c) (k:=[.code tk4]) (cs:=cs) (w:=w) (ops:=zw tkGo) (i:=2) (rest:=[]) (o:=vu) (d:=qz s c) (w':=w) rfl rfl (by simp[base0]) he1 rfl
 rw[listed_none he2] at this;exact this
theorem zhc(s:ByteArray)(f:FuncId)(c:Nat):yG (Xc s f c):=fun g w T d ⟨a,b,sl,h1,h2,h3⟩=>
 let ⟨x0,x1,x2,x3,h⟩:=h3.bad
 ⟨a,b,sl,h1,h2,h3.chan,h3.own,⟨x0,x1,x2,x3,h.c0,h.c1,h.c2,h.c3,h.c4,h.c5,h.f0,h.f1,h.f2,h.f3,h.f4,h.f5⟩,h3.lt,h3.ltc⟩
theorem xc_recv(s:ByteArray)(f:FuncId)(c:Nat):∀g v,Xc s f c g v->jk Tryz.prog f c ((pieces s).length+1) g v:=by
 rintro g v ⟨a,b,sl,rfl,h2,h3⟩;refine⟨_,zeroItem,true,rfl,rfl,fun T d=>vh s c b sl a _ h2 _,?_⟩;have:=h3.chan
 rw[List.drop_length] at this;exact⟨_,_,this⟩
theorem tame_recvK(a:Act):zy ((base0 40).at a yI):=by
 intro i hi;have:i∈yI:=hi
 simp only[yI,qY,List.mem_cons,List.not_mem_nil,or_false] at this;rcases this with rfl|rfl|rfl|rfl|rfl<;>trivial
theorem tok_pipe(hP:TameProg Tryz.prog)(s:ByteArray)(hs:¬8192<s.size)(w0:World)(hv:VarsOk w0)(cs:List Frame):
 Bes Tryz.prog (Leav Tryz.prog 40 (qg s w0) cs) (Go.Conc.G ((base0 40).at (goAct s w0.heap.size) [.inRegion (zw tkGo) [2], .code tk4]) cs) (w0.alloc (.chan 16 #[] false 0 0 false)):=by
 intro hr ht;have hvW:VarsOk (w0.alloc (.chan 16 #[] false 0 0 false)):=by
  have g:=World.grownBy_alloc w0 (.chan 16 #[] false 0 0 false) none;exact hv.kin ⟨rfl,rfl,g.size,fun k hk=>g.block k hk (by simp)⟩
 have hsz:=hv.size;have h9z:9<w0.heap.size:=by obtain⟨_,_,_,_,q⟩:=hv.far 9 (.inr rfl);exact lt_of_some q
 obtain⟨o8,o9,⟨t8,p8,h8⟩,⟨t9,p9,h9⟩,hz9,hGW⟩:=hvW.stands
 have hcl:w0.heap.size<(w0.alloc (.chan 16 #[] false 0 0 false)).heap.size:=by simp
 have hclp:w0.heap.size<(farW (w0.alloc (.chan 16 #[] false 0 0 false)) o8 o9).heap.size:=by rw[farW_size];exact hcl
 have hlen:((pieces s).map Item.v).length=(pieces s).length:=List.length_map _;have hpl:=kP s;have hMp:=zgk s 40 w0.heap.size (farW (w0.alloc (.chan 16 #[] false 0 0 false)) o8 o9) (by omega) hclp _ _ h8 h9 ⟨_,_,rfl⟩ ⟨_,_,rfl⟩ (by omega) (by omega)
 have hMc:=zfc s 40 w0.heap.size (w0.alloc (.chan 16 #[] false 0 0 false)) (by omega) hcl
 rw[<-hlen] at hMp hMc;refine(zgp (P:=Tryz.prog) (f:=40) (c:=w0.heap.size) (cap:=16) (L:=(pieces s).map Item.v) (l0:=cs) (Gb:=fun y=>y=5\/y=6\/y=7\/y=8\/y=9) (W:=w0.alloc (.chan 16 #[] false 0 0 false)) (Wp:=farW (w0.alloc (.chan 16 #[] false 0 0 false)) o8 o9) (Xc:=Xc s 40 w0.heap.size) (Xp:=Xp s 40 w0.heap.size (farW (w0.alloc (.chan 16 #[] false 0 0 false)) o8 o9))
  (ts:= #[188]) (ty:=0) (cn:= #[false]) hP zfI zcG ?_ rfl (fun T d=>zgb s _ cs _) (zh3 s _) (frel_prod s _ _) rfl rfl ?_ (frel_cons s _) rfl ?_ ht.2 (by decide) (heap_alloc_new w0 _) ?_ (fun g hg=>by simpa [inG,zz] using hg) hGW (farW_size _ _ _) rfl (by omega) hMp hMc (zhb _ _ _ _) (zhc _ _ _) ?_ ?_ ?_ ?_).bind ?_ hr ht
 ·intro x hx;obtain⟨y,_,rfl⟩:=List.mem_map.1 hx
  exact plainV_item y
 ·intro i hi;have:i= .code yD:=List.mem_singleton.1 hi
  subst this
  trivial
 ·intro i hi;have hi:i∈[.inRegion (zw tkGo) [], .code tk4]:=hi;simp only[List.mem_cons,List.not_mem_nil,or_false] at hi;rcases hi with rfl|rfl<;>trivial
 ·intro g hg;exact absurd hg (by simp[inG])
 ·intro g v hx;have:=ze6 s 40 w0.heap.size _ g v hx
  exact this
 ·rintro g v ⟨fr,h1,h2,h3,h4,h5,h6⟩ y hy hyc;exact h5 y (by rw[farW_size];omega) hyc
 ·intro g v hx;rw[hlen];exact xc_recv s _ _ g v hx
 ·rintro g v ⟨a,b,sl,rfl,_⟩;exact tame_recvK a
 ·rintro g w1 ⟨ρ,fr,fr',z,z',ok,v,hE⟩;exact tok_tail hP s 40 w0.heap.size w0 _ cs hs rfl ⟨_,rfl⟩ hE
theorem tok_go(hP:TameProg Tryz.prog)(s:ByteArray)(hs:¬8192<s.size)(w0:World)(hv:VarsOk w0):
 jt Tryz.prog 40 (qg s w0) (seqR tk2) (jd s w0.heap.size) (w0.alloc (.chan 16 #[] false 0 0 false)):=by
 intro cs;have e:seqR tk2= .seq tkGo tk4:=rfl;rw[e];obtain⟨id,hid,h3⟩:=zhl
 refine head1 hP (fun w=>step_seq) ?_;have hreg:∀w,step Tryz.prog (lone ((base0 40).at (jd s w0.heap.size) [.code tkGo, .code tk4]) cs w)= .next (lone ((base0 40).at (jd s w0.heap.size) [.inRegion (zw tkGo) [0,1,2], .code tk4]) cs w):=fun w=>by
  have:=step_region (P:=Tryz.prog) (b:=base0 40) (a:=jd s w0.heap.size) (k:=[.code tk4]) (cs:=cs) (w:=w) (ops:=zw tkGo) (id:=id)
  rw[<-hid,h3] at this;exact this
 refine head1 hP hreg ?_;have m1:∀w,step Tryz.prog (lone ((base0 40).at (jd s w0.heap.size) [.inRegion (zw tkGo) [0,1,2], .code tk4]) cs w)=_:=fun w=>
  x6 (P:=Tryz.prog) (b:=base0 40) (a:=jd s w0.heap.size) (k:=[.code tk4]) (cs:=cs) (ops:=zw tkGo) (i:=0) (rest:=[1,2]) (w:=w) (w':=w) (v:= .string s)
   (o:={dst:=some 13,op:=Op.move (Operand.tmp 0),type:=9,pos:= "lex.go:116",after:= #[],guard:=none}) rfl rfl (by simp[execOp,qc,jd])
 refine head1 hP m1 ?_;have m2:∀w,step Tryz.prog (lone ((base0 40).at ((jd s w0.heap.size).put (some 13) (.string s)) [.inRegion (zw tkGo) [1,2], .code tk4]) cs w)=_:=fun w=>
  x6 (P:=Tryz.prog) (b:=base0 40) (a:=(jd s w0.heap.size).put (some 13) (.string s)) (k:=[.code tk4]) (cs:=cs) (ops:=zw tkGo) (i:=1) (rest:=[2]) (w:=w) (w':=w) (v:= .chan (some w0.heap.size))
   (o:={dst:=some 14,op:=Op.move (Operand.tmp 5),type:=136,pos:= "lex.go:116",after:= #[],guard:=none}) rfl rfl (by simp[execOp,qc,jd,Act.put])
 refine head1 hP m2 ?_;exact tok_pipe hP s hs w0 hv cs
theorem ziS(w:World):(Instr.makeChan 136 (.int .i64 16)).run Tryz.prog w= .ok (.chan (some w.heap.size)) (w.alloc (.chan 16 #[] false 0 0 false)):=by
 obtain⟨i0,hi,hz0,hz1,hz2⟩:=info_parts zb1
 simp[Instr.makeChan,run_underlying u136,typeInfo,hi,hz2,go_sem]
theorem zce(hP:TameProg Tryz.prog)(s:ByteArray)(hs:s.size<=9223372036854775807)(w:World)(hv:VarsOk w):CallsB Tryz.prog 40 #[.string s] w (qg s w):=by
 refine jW Tryz.func40 (c:=tk0) rfl ?_;have e0:tk0= .seq (seqL tk0) (.seq (seqL (seqR tk0)) (.seq (seqL tk2) (seqR tk2))):=rfl;rw[e0];have ha:(#[Value.string s]++Array.replicate (Tryz.f40.ntmps- #[Value.string s].size) undef)= #[.string s,undef,undef,undef,undef,undef,undef,undef,undef,undef,undef,undef,undef,undef,undef,undef,undef,undef,undef,undef,undef,undef,undef,undef,undef,undef,undef,undef,undef,undef,undef,undef,undef,undef,undef,undef]:=by
  simp only[Tryz.ntmps40];simp[Array.replicate_succ]
 rw[ha];have hR:∀w',¬qg s w .outgrown w':=fun w' h=>h;refine jg hP Tryz.func40 hR (xu hP fun T d=>?_);generalize hB:bodyPost Tryz.prog Tryz.f40 (qg s w)=B;generalize hY:(Code.seq (seqL (seqR tk0)) (.seq (seqL tk2) (seqR tk2)))=Y;simp only[seqL,tk0,Tryz.f40,Option.getD_some];go_wp2;subst hY;refine jg hP Tryz.func40 hR (xu hP fun T d=>?_);subst hB;generalize hB:bodyPost Tryz.prog Tryz.f40 (qg s w)=B;have HB:=Lib.hid hB;clear hB;generalize hY:(Code.seq (seqL tk2) (seqR tk2))=Y;simp only[seqL,seqR,tk0,Tryz.f40,Option.getD_some];have HV:=Lib.hid hv;clear hv;by_cases hlen:8192<s.size
 ·have hq:decide ((8192:Int)<↑s.size)=true:=by simp;omega
  have HL:=Lib.hid hlen;clear hlen;go_wp2;rw[<-HB.out];refine⟨rfl,_,res40 _ _ _ _ rfl rfl rfl _,⟨rfl,rfl,Nat.le_refl _,fun _ _=>rfl⟩,?_⟩;unfold TokRes;rw[if_pos HL.out];rfl
 ·have hq:decide ((8192:Int)<↑s.size)=false:=by simp;omega
  have HL:=Lib.hid hlen;clear hlen;go_wp2;subst hY;refine jg hP Tryz.func40 hR (xu hP fun T2 d2=>?_);rw[show re (re w T d) T2 d2=re w T2 d2 from rfl];have hgo:=tok_go hP s HL.out w HV.out;have HGO:=Lib.hid hgo;clear hgo;rw[HB.out];generalize hX:seqR tk2=X at HGO⊢;clear hX;simp only[seqL,seqR,tk2,tk0,Tryz.f40,Option.getD_some];have hm:=ziS (re w T2 d2);go_wp2;exact HGO.out
open Go.RowKit Go.Bsd
inductive POut where
 |tree (l:List Nd)
 |fault (kind at_:Int)
def ku(te:TypeId)(pe:Value)(w:World)(o:POut)(v:Value)(w':World):Prop:=match o with
 | .tree l=>∃sl,v= .tuple #[sl, .nilIface]/\w'.ownsRow w.heap.size 50 6 sl l.length (ndCells l)
 | .fault k p=>∃q,v= .tuple #[.slice none 0 0, .iface 71 (.pointer (some ⟨q,0,none⟩))]/\w.heap.size<=q/\w'.heap[q]? =some (.cells #[.int .i64 k, .int .i64 p, .iface te pe] 73 (0,0))
def xJ(te:TypeId)(pe:Value)(w:World)(o:POut):Ending->World->Prop
 | .returned v,w'=>Kin w w'/\ku te pe w o v w'
 |_,_=>False
noncomputable def pk0:Code:=(Tryz.f14.body.getD .skip)
noncomputable def pk2:Code:=seqR (seqR pk0)
theorem res14(a:Array Value)(n0:Nat)(W:World)(b:Option Addr)(n cap:Nat)(y:Value)(h2:a.getD 2 undef= .pointer (some ⟨n0,0,none⟩))(h3:a.getD 3 undef= .pointer (some ⟨n0+1,0,none⟩))(c2:W.cell? ⟨n0,0,none⟩=some (.slice b n cap))(c3:W.cell? ⟨n0+1,0,none⟩=some y)(hy:y= .nilIface\/∃t v,y= .iface t v):
 (results Tryz.f14 a).run Tryz.prog W= .ok (.tuple #[.slice b n cap,y]) W:=by
 rw[Array.getD_eq_getD_getElem?] at h2 h3;rcases hy with rfl|⟨t,v,rfl⟩
 ·simp only[results,Tryz.f14];simp[go_sem,h2,h3,c2,c3]
 ·simp only[results,Tryz.f14];simp[go_sem,h2,h3,c2,c3]
theorem parse_bad(s:ByteArray)(te:TypeId)(pe:Value)(w w1:World)(n0:Nat)(sl:Value)(kd pl:Int)(hkd:kd≠0)(hn:n0=w.heap.size)(hk:Kin w w1)(c2:w1.cell? ⟨n0,0,none⟩=some (.slice none 0 0))(c3:w1.cell? ⟨n0+1,0,none⟩=some .nilIface)(f2:w1.frozen? ⟨n0,0,none⟩=false)(f3:w1.frozen? ⟨n0+1,0,none⟩=false)(hl:n0+1<w1.heap.size)(ce:w1.cell? ⟨0,0,none⟩=some (.iface te pe)):
 pk2.wp Tryz.prog (bodyPostD Tryz.prog Tryz.f14 (xJ te pe w (.fault kd pl))) {tmps:= #[.string s,undef, .pointer (some ⟨n0,0,none⟩), .pointer (some ⟨n0+1,0,none⟩),sl, .int .i64 kd, .int .i64 pl,undef,undef,undef,undef,undef, .tuple #[sl, .int .i64 kd, .int .i64 pl], .string s, .tuple #[sl, .int .i64 kd, .int .i64 pl],sl, .int .i64 kd, .int .i64 pl,undef,undef,undef,undef,undef,undef,undef,undef,undef,undef,undef,undef,undef,undef,undef,undef,undef,undef,undef,undef,undef,undef,undef,undef,undef,undef,undef,undef,undef,undef,undef,undef,undef,undef,undef,undef,undef,undef,undef,undef,undef,undef,undef,undef,undef,undef,undef],defers:=[]} w1:=by
 have HK:=Lib.hid hk;have HN:=Lib.hid hn;clear hk hn;have k1:(kd==0)=false:=by simp[hkd]
 have k2:(kd !=0)=true:=by simp[hkd]
 clear hkd;have hl0:n0<w1.heap.size:=by omega
 have hne0:¬n0=w1.heap.size:=by omega
 have hne1:¬n0+1=w1.heap.size:=by omega
 generalize hQ:bodyPostD Tryz.prog Tryz.f14 (xJ te pe w (.fault kd pl))=Q;have HQ:=Lib.hid hQ;clear hQ;simp only[pk2,pk0,seqR,Tryz.f14,Option.getD_some];go_wp2_with (go_at_call 41;refine(refused_any kd pl te pe _ ce).mono ?_;rintro e w' ⟨rfl,rfl⟩);rw[<-HQ.out];have p2:((w1.setCell ⟨n0,0,none⟩ (.slice none 0 0)).setCell ⟨n0+1,0,none⟩ (.iface 71 (.pointer (some ⟨w1.heap.size,0,none⟩)))).cell? ⟨n0,0,none⟩=some (.slice none 0 0):=by simp[go_sem,c2]
 have p3:((w1.setCell ⟨n0,0,none⟩ (.slice none 0 0)).setCell ⟨n0+1,0,none⟩ (.iface 71 (.pointer (some ⟨w1.heap.size,0,none⟩)))).cell? ⟨n0+1,0,none⟩=some (.iface 71 (.pointer (some ⟨w1.heap.size,0,none⟩))):=by simp[go_sem,c3]
 have q2:(((w1.setCell ⟨n0,0,none⟩ (.slice none 0 0)).setCell ⟨n0+1,0,none⟩ (.iface 71 (.pointer (some ⟨w1.heap.size,0,none⟩)))).alloc (Obj.cells #[Value.int IntKind.i64 kd,Value.int IntKind.i64 pl,Value.iface te pe] 73)).cell? ⟨n0,0,none⟩=some (.slice none 0 0):=(World.grownBy_alloc _ _ none).cell p2 (by simp)
 have q3:(((w1.setCell ⟨n0,0,none⟩ (.slice none 0 0)).setCell ⟨n0+1,0,none⟩ (.iface 71 (.pointer (some ⟨w1.heap.size,0,none⟩)))).alloc (Obj.cells #[Value.int IntKind.i64 kd,Value.int IntKind.i64 pl,Value.iface te pe] 73)).cell? ⟨n0+1,0,none⟩=some (.iface 71 (.pointer (some ⟨w1.heap.size,0,none⟩))):=(World.grownBy_alloc _ _ none).cell p3 (by simp)
 refine⟨_,res14 _ n0 _ none 0 0 _ rfl rfl q2 q3 (.inr ⟨_,_,rfl⟩),?_,w1.heap.size,rfl,HK.out.size,?_⟩
 ·have hk:=HK.out;have hn:=HN.out;have g1:=zB w1 n0 0 (.slice none 0 0);have g2:=zB (w1.setCell ⟨n0,0,none⟩ (.slice none 0 0)) (n0+1) 0 (.iface 71 (.pointer (some ⟨w1.heap.size,0,none⟩)));have g3:=World.grownBy_alloc ((w1.setCell ⟨n0,0,none⟩ (.slice none 0 0)).setCell ⟨n0+1,0,none⟩ (.iface 71 (.pointer (some ⟨w1.heap.size,0,none⟩)))) (Obj.cells #[Value.int IntKind.i64 kd,Value.int IntKind.i64 pl,Value.iface te pe] 73) none;have s0:=hk.size;have s1:=g1.size;have s2:=g2.size;exact⟨hk.os,hk.out,Nat.le_trans s0 (Nat.le_trans s1 (Nat.le_trans s2 g3.size)),fun k hkk=>(g3.block k (by omega) (by simp)).trans ((g2.block k (by omega) (by simp;omega)).trans ((g1.block k (by omega) (by simp;omega)).trans (hk.block k hkk)))⟩
 ·have:=heap_alloc_new ((w1.setCell ⟨n0,0,none⟩ (.slice none 0 0)).setCell ⟨n0+1,0,none⟩ (.iface 71 (.pointer (some ⟨w1.heap.size,0,none⟩)))) (Obj.cells #[Value.int IntKind.i64 kd,Value.int IntKind.i64 pl,Value.iface te pe] 73)
  simpa using this
theorem zge{L:List Item}{j:Nat}{t:Item}(h:L[j]? =some t)(k:Nat)(hk:k<4):(flatToks L)[j*4+k]? =(tokCells t)[k]? :=by
 induction L generalizing j with
 |nil=>simp at h
 |cons x l ih=>
  have e:flatToks (x::l)=tokCells x++flatToks l:=by simp[flatToks]
  have hl:(tokCells x).length=4:=rfl;rw[e];cases j with
  |zero=>
   simp at h;subst h;rw[List.getElem?_append_left (by rw[hl];omega)]
   congr 1;omega
  |succ j=>
   simp at h;rw[List.getElem?_append_right (by rw[hl];omega),hl,show(j+1)*4+k-4=j*4+k from by omega]
   exact ih h
def zh5:Value->Nat
 | .slice (some a) _ _=>a.block
 |_=>0
def ctxOf(s:ByteArray)(te:TypeId)(pe:Value)(r:Nat)(sl:Value):Ctx:=⟨zr (pieces s),s.size,te,pe,r,zh5 sl⟩
theorem zfD(s:ByteArray)(te:TypeId)(pe:Value)(sl:Value)(B:Nat)(w1:World)(hown:w1.ownsRow B 140 4 sl (zr (pieces s)).length (flatToks (zr (pieces s))))(hL:(zr (pieces s)).length<=8193)(he:w1.cell? ⟨0,0,none⟩=some (.iface te pe)):
 Rd (ctxOf s te pe w1.heap.size sl) 0 (w1.alloc (.cells #[sl, .int .i64 0, .int .i64 s.size] 86)):=by
 have h0:0<w1.heap.size:=World.block_lt_of_cell? w1 ⟨0,0,none⟩ he;have c0:(w1.alloc (.cells #[sl, .int .i64 0, .int .i64 s.size] 86)).cell? ⟨w1.heap.size,0,none⟩=some sl:=by simp[go_sem]
 have hkeep:∀{n o:Nat} {v:Value},w1.cell? ⟨n,o,none⟩=some v->(w1.alloc (.cells #[sl, .int .i64 0, .int .i64 s.size] 86)).cell? ⟨n,o,none⟩=some v:=fun h=>(World.grownBy_alloc w1 _ none).cell h (by simp)
 rcases hown.2 with⟨rfl,hn⟩|⟨g,cap,cur,rfl,hb,hg,hn,hm,hsz,htake⟩
 ·have hnil:zr (pieces s)=[]:=List.eq_nil_of_length_eq_zero hn;refine⟨⟨none,0,0,by refine c0.trans ?_;simp[ctxOf,hnil],fun h=>absurd hnil h,by simp[ctxOf,hnil],⟨?_,?_,?_,?_⟩,fun h=>absurd hnil h⟩,by simp[go_sem,ctxOf],by simp[go_sem,ctxOf],by simp[go_sem,ctxOf],Nat.zero_le _,hL,hkeep he,h0,fun b n cap hb hne=>absurd hnil hne⟩<;>
   (intro j t hj;simp[ctxOf,hnil] at hj)
 ·have cells:∀(j:Nat) (t:Item),(zr (pieces s))[j]? =some t->∀k v,k<4->(tokCells t)[k]? =some v->(w1.alloc (.cells #[.slice (some ⟨g,0,none⟩) (zr (pieces s)).length cap, .int .i64 0, .int .i64 s.size] 86)).cell? ⟨g,j*4+k,none⟩=some v:=by
   intro j t hj k v hk hv;refine hkeep ?_;have:=hown.cells rfl (j*4+k) v ((zge hj k hk).trans hv)
   rw[show((⟨g,0,none⟩:Addr).add (j*4+k))=⟨g,j*4+k,none⟩ from by unfold Addr.add;split<;>simp_all] at this
   exact this
  have hgl:g<w1.heap.size:=(Array.getElem?_eq_some_iff.1 hg).1;refine⟨⟨_,cap,g,c0,fun _=>rfl,hn,⟨fun j t hj=>cells j t hj 0 _ (by omega) rfl,fun j t hj=>cells j t hj 1 _ (by omega) rfl,fun j t hj=>cells j t hj 2 _ (by omega) rfl,fun j t hj=>cells j t hj 3 _ (by omega) rfl⟩,fun _=>by show g≠w1.heap.size;omega⟩,by simp[go_sem,ctxOf],by simp[go_sem,ctxOf],by simp[go_sem,ctxOf],Nat.zero_le _,hL,hkeep he,h0,fun b n cp hb hne=>?_⟩
  have hb:(w1.alloc (.cells #[.slice (some ⟨g,0,none⟩) (zr (pieces s)).length cap, .int .i64 0, .int .i64 s.size] 86)).cell? ⟨w1.heap.size,0,none⟩=some (.slice b n cp):=hb;rw[c0] at hb;simp only[Option.some.injEq,Value.slice.injEq] at hb;rw[<-hb.1];rfl
def jv(l:List Nd):POut:=
 if 300<l.length then .fault 32 ((l[300]?.map (·.at_)).getD 0)
 else match l.find? (fun n=>decide (24<n.depth)) with
  |some n=> .fault 31 n.at_
  |none=> .tree l
def xR:Res (List Tr)->POut
 | .no p=> .fault 30 p
 | .ok ts _=>jv (flatTs ts 1)
theorem kf(te:TypeId)(pe:Value)(w W:World)(tmps:Array Value)(n0 q:Nat)(k p:Int)(b:Option Addr)(n m:Nat)(t2:tmps.getD 2 undef= .pointer (some ⟨n0,0,none⟩))(t3:tmps.getD 3 undef= .pointer (some ⟨n0+1,0,none⟩))(hn:n0=w.heap.size)(hk:Kin w W)
 (c2:W.cell? ⟨n0,0,none⟩=some (.slice b n m)) (c3:W.cell? ⟨n0+1,0,none⟩=some .nilIface) (f2:W.frozen? ⟨n0,0,none⟩=false) (f3:W.frozen? ⟨n0+1,0,none⟩=false) (hl:n0+1<W.heap.size) (hq:n0+1<q) (hf:W.heap[q]? =some (.cells #[.int .i64 k, .int .i64 p, .iface te pe] 73 (0,0))):
 Leaves Tryz.prog Tryz.f14 tmps (xJ te pe w (.fault k p)) [{target:=Target.fn (Fn.func 42) #[Value.pointer (some {block:=n0,off:=0}),Value.pointer (some {block:=n0+1,off:=0})],args:= #[]}] (.panicking [{v:= .iface 71 (.pointer (some ⟨q,0,none⟩)),recovered:=false}]) W:=by
 have hinv:(invoke (.fn (.func 42) #[.pointer (some ⟨n0,0,none⟩), .pointer (some ⟨n0+1,0,none⟩)]) #[]).run Tryz.prog W= .ok (.enter 42 #[.pointer (some ⟨n0,0,none⟩), .pointer (some ⟨n0+1,0,none⟩)]) W:=by
  have:=yO Tryz.func42 (by kernel_rfl) (by kernel_rfl) #[.pointer (some ⟨n0,0,none⟩), .pointer (some ⟨n0+1,0,none⟩)] W
  simpa [invoke] using this
 refine⟨by simp,_,_,42,_,rfl,hinv,?_⟩
 have hc:=pcatch_panicking n0 q b n m W c2 c3 f2 f3 hl;have p2:((W.setCell ⟨n0,0,none⟩ (.slice none 0 0)).setCell ⟨n0+1,0,none⟩ (.iface 71 (.pointer (some ⟨q,0,none⟩)))).cell? ⟨n0,0,none⟩=some (.slice none 0 0):=by simp[go_sem,c2]
 have p3:((W.setCell ⟨n0,0,none⟩ (.slice none 0 0)).setCell ⟨n0+1,0,none⟩ (.iface 71 (.pointer (some ⟨q,0,none⟩)))).cell? ⟨n0+1,0,none⟩=some (.iface 71 (.pointer (some ⟨q,0,none⟩))):=by simp[go_sem,c3]
 have g1:=zB W n0 0 (.slice none 0 0);have g2:=zB (W.setCell ⟨n0,0,none⟩ (.slice none 0 0)) (n0+1) 0 (.iface 71 (.pointer (some ⟨q,0,none⟩)));have s0:=hk.size;have s1:=g1.size;have s2:=g2.size;have hql:q<W.heap.size:=(Array.getElem?_eq_some_iff.1 hf).1;refine hc.mono ?_;rintro e u' w' ⟨rfl,rfl,rfl⟩;refine⟨_,res14 _ n0 _ none 0 0 _ t2 t3 p2 p3 (.inr ⟨_,_,rfl⟩),⟨hk.os,hk.out,by omega,fun x hx=>?_⟩,q,rfl,by omega,?_⟩
 ·exact(g2.block x (by omega) (by simp;omega)).trans ((g1.block x (by omega) (by simp;omega)).trans (hk.block x hx))
 ·exact(g2.block q (by omega) (by simp;omega)).trans ((g1.block q (by omega) (by simp;omega)).trans hf)
theorem zcO(te:TypeId)(pe:Value)(w W:World)(tmps:Array Value)(n0:Nat)(l:List Nd)(b:Option Addr)(c:Nat)(t2:tmps.getD 2 undef= .pointer (some ⟨n0,0,none⟩))(t3:tmps.getD 3 undef= .pointer (some ⟨n0+1,0,none⟩))(hk:Kin w W)
 (c2:W.cell? ⟨n0,0,none⟩=some (.slice b l.length c)) (c3:W.cell? ⟨n0+1,0,none⟩=some .nilIface) (ho:W.ownsRow w.heap.size 50 6 (.slice b l.length c) l.length (ndCells l)):
 Leaves Tryz.prog Tryz.f14 tmps (xJ te pe w (.tree l)) [{target:=Target.fn (Fn.func 42) #[Value.pointer (some {block:=n0,off:=0}),Value.pointer (some {block:=n0+1,off:=0})],args:= #[]}] .returning W:=by
 have hinv:(invoke (.fn (.func 42) #[.pointer (some ⟨n0,0,none⟩), .pointer (some ⟨n0+1,0,none⟩)]) #[]).run Tryz.prog W= .ok (.enter 42 #[.pointer (some ⟨n0,0,none⟩), .pointer (some ⟨n0+1,0,none⟩)]) W:=by
  have:=yO Tryz.func42 (by kernel_rfl) (by kernel_rfl) #[.pointer (some ⟨n0,0,none⟩), .pointer (some ⟨n0+1,0,none⟩)] W
  simpa [invoke] using this
 refine⟨by simp,_,_,42,_,rfl,hinv,?_⟩
 refine(zbj ⟨n0,0,none⟩ ⟨n0+1,0,none⟩ W).mono ?_;rintro e u' w' ⟨rfl,rfl,rfl⟩;exact⟨_,res14 _ n0 _ b _ c _ t2 t3 c2 c3 (.inl rfl),hk,_,rfl,ho⟩
theorem nd_get{L:List Nd}{j:Nat}{t:Nd}(h:L[j]? =some t)(k:Nat)(hk:k<6):(ndCells L)[j*6+k]? =t.cells[k]? :=by
 induction L generalizing j with
 |nil=>simp at h
 |cons x l ih=>
  have e:ndCells (x::l)=x.cells++ndCells l:=by simp[ndCells]
  have hl:x.cells.length=6:=rfl;rw[e];cases j with
  |zero=>
   simp at h;subst h;rw[List.getElem?_append_left (by rw[hl];omega)]
   congr 1;omega
  |succ j=>
   simp at h;rw[List.getElem?_append_right (by rw[hl];omega),hl,show(j+1)*6+k-6=j*6+k from by omega]
   exact ih h
structure FlI (n0:Nat) (w3 wr:World) (b:Option Addr) (c:Nat) (l:List Nd):Prop where
 cell:wr.cell? ⟨n0,0,none⟩=some (.slice b l.length c)
 froz:wr.frozen? ⟨n0,0,none⟩=false
 own:wr.ownsRow w3.heap.size 50 6 (.slice b l.length c) l.length (ndCells l)
 os:wr.os=w3.os
 out:wr.output=w3.output
 size:w3.heap.size<=wr.heap.size
 keep:∀k,k<w3.heap.size->k≠n0->wr.heap[k]? =w3.heap[k]?
theorem zfw{w:World}{B:Nat}{e:TypeId}{z n:Nat}{v:Value}{xs:List Value}(h:w.ownsRow B e z v n xs):∃b c,v= .slice b n c:=by
 rcases h.2 with⟨h1,h2⟩|⟨g,cap,cur,h1,_⟩
 ·exact⟨none,0,by rw[h1,h2]⟩
 ·exact⟨_,cap,h1⟩
theorem FlI.step{n0:Nat}{w3 wr w':World}{b b':Option Addr}{c c':Nat}{l l':List Nd}(h:FlI n0 w3 wr b c l)(hn:n0<w3.heap.size)(hb:Below w3.heap.size wr w')(ho:w'.ownsRow w3.heap.size 50 6 (.slice b' l'.length c') l'.length (ndCells l')):FlI n0 w3 (w'.setCell ⟨n0,0,none⟩ (.slice b' l'.length c')) b' c' l':=by
 have g:=zB w' n0 0 (.slice b' l'.length c');have c1:w'.cell? ⟨n0,0,none⟩=some (.slice b l.length c):=(hb.cell (p:=⟨n0,0,none⟩) hn).trans h.cell;have c2:w'.frozen? ⟨n0,0,none⟩=false:=(hb.frozen (p:=⟨n0,0,none⟩) hn).trans h.froz;refine⟨by simp[go_sem,c1],by simp[go_sem,c2],ho.kept g ?_,(g.os.trans hb.os).trans h.os,(g.output.trans hb.output).trans h.out,Nat.le_trans (Nat.le_trans h.size hb.size) g.size,fun k hk hkn=>?_⟩
 ·cases hv:(Value.slice b' l'.length c').ownBlock with
  |none=>exact .inl rfl
  |some k=>right;have:=ho.lt k hv;simp;omega
 ·exact(g.block k (by have:=h.size;have:=hb.size;omega) (by simp;omega)).trans ((hb.block k hk).trans (h.keep k hk hkn))
theorem zcC(s:ByteArray)(hs:s.size<=8192)(te:TypeId)(pe:Value)(w w1:World)(n0 f:Nat)(sl:Value)(pl:Int)(r:Res (List Tr))(hr:rd (ctxOf s te pe w1.heap.size sl) f .prog 0=some r)(hn:n0=w.heap.size)(hk:Kin w w1)(c2:w1.cell? ⟨n0,0,none⟩=some (.slice none 0 0))(c3:w1.cell? ⟨n0+1,0,none⟩=some .nilIface)(f2:w1.frozen? ⟨n0,0,none⟩=false)(f3:w1.frozen? ⟨n0+1,0,none⟩=false)(hl:n0+1<w1.heap.size)(ce:w1.cell? ⟨0,0,none⟩=some (.iface te pe))
 (B:Nat) (hown:w1.ownsRow B 140 4 sl (zr (pieces s)).length (flatToks (zr (pieces s)))) (hL:(zr (pieces s)).length<=8193):
 pk2.wp Tryz.prog (bodyPostD Tryz.prog Tryz.f14 (xJ te pe w (xR r))) {tmps:= #[.string s,undef, .pointer (some ⟨n0,0,none⟩), .pointer (some ⟨n0+1,0,none⟩),sl, .int .i64 0, .int .i64 pl,undef,undef,undef,undef,undef, .tuple #[sl, .int .i64 0, .int .i64 pl], .string s, .tuple #[sl, .int .i64 0, .int .i64 pl],sl, .int .i64 0, .int .i64 pl,undef,undef,undef,undef,undef,undef,undef,undef,undef,undef,undef,undef,undef,undef,undef,undef,undef,undef,undef,undef,undef,undef,undef,undef,undef,undef,undef,undef,undef,undef,undef,undef,undef,undef,undef,undef,undef,undef,undef,undef,undef,undef,undef,undef,undef,undef,undef],defers:=[]} w1:=by
 have hRd:=zfD s te pe sl B w1 hown hL ce;have HK:=Lib.hid hk;have HN:=Lib.hid hn;have hsl:∃b cap,sl= .slice b (zr (pieces s)).length cap:=by
  rcases hown.2 with⟨h,hn⟩|⟨g,cap,cur,h,_⟩
  ·exact⟨none,0,by rw[h,hn]⟩
  ·exact⟨_,cap,h⟩
 obtain⟨sb,sc,rfl⟩:=hsl
 have hprog:=zfH _ f 0 _ r hr hRd;have hr0:=Lib.hid hr;clear hk hn hr hown;generalize hQ:bodyPostD Tryz.prog Tryz.f14 (xJ te pe w (xR r))=Q;have HQ:=Lib.hid hQ;clear hQ;simp only[pk2,pk0,seqR,Tryz.f14,Option.getD_some];cases r with
 |no p=>
  have hprog:=zF hprog;go_wp2_with (go_at_call 43;refine(hprog).mono ?_;rintro e w' ⟨ch,rfl,hF⟩);rw[<-HQ.out];have hgA:=World.grownBy_alloc w1 (Obj.cells #[Value.slice sb (zr (pieces s)).length sc,Value.int IntKind.i64 0,Value.int IntKind.i64 ↑s.size] 86) (some w1.heap.size);obtain⟨q,rfl,hq1,hq2,hgB⟩:=hF
  have hG:w1.grownBy w' (some w1.heap.size):=grown_trans hgA hgB;have hk:=HK.out;have hn:=HN.out;have s0:=hk.size;have s1:=hG.size;have hqs:w1.heap.size+1<=q:=by simpa using hq1
  exact kf te pe w w' _ n0 q 30 p none 0 0 rfl rfl hn ⟨hG.os.trans hk.os,hG.output.trans hk.out,by omega,fun x hx=>(hG.block x (by omega) (by simp;omega)).trans (hk.block x hx)⟩
   (hG.cell c2 (by simp;omega)) (hG.cell c3 (by simp;omega)) ((World.frozen?_of_block (a:=⟨n0,0,none⟩) (hG.block n0 (by omega) (by simp;omega))).trans f2) ((World.frozen?_of_block (a:=⟨n0+1,0,none⟩) (hG.block (n0+1) hl (by simp;omega))).trans f3) (by omega) (by omega) hq2
 |ok ts j=>
  have hnod:=rd_nodes _ _ _ _ _ _ hr0.out;have hprog:=kH hprog;go_wp2_with (go_at_call 43;refine(hprog).mono ?_;rintro e w3 ⟨v3,rfl,hK3,hR3,hG3⟩;obtain⟨kb,kc,rfl,hKK⟩:=hK3.kids hRd.lt);have hjl:=hR3.le;have hcnt:(flatTs ts 1).length<=8193:=by
   have e:=xy 1 0 ts;have h2:0+nodes ts<=j+0:=hnod;have h3:j<=(zr (pieces s)).length:=hjl;unfold nodes at h2;omega
  have hgA:=World.grownBy_alloc w1 (Obj.cells #[Value.slice sb (zr (pieces s)).length sc,Value.int IntKind.i64 0,Value.int IntKind.i64 ↑s.size] 86) (some w1.heap.size);have hG:w1.grownBy w3 (some w1.heap.size):=grown_trans hgA hG3;have hsA:w1.heap.size+1<=w3.heap.size:=by have:=hG3.size;simpa using this
  have d2:w3.cell? ⟨n0,0,none⟩=some (.slice none 0 0):=hG.cell c2 (by simp;omega)
  have e2:w3.frozen? ⟨n0,0,none⟩=false:=(World.frozen?_of_block (a:=⟨n0,0,none⟩) (hG.block n0 (by omega) (by simp;omega))).trans f2
  obtain⟨g,q,hb1,hb2,hb3,hb4,hb5⟩:=hKK
  have HG:=Lib.hid hG;have HB1:=Lib.hid hb1;have HB2:=Lib.hid hb2;have HB4:=Lib.hid hb4;have HB5:=Lib.hid hb5;have hn3:n0<w3.heap.size:=by omega
  have HZ:Hid (∀(x:World) {b:Option Addr} {c:Nat} {l:List Nd},FlI n0 w3 x b c l->x.cell? ⟨0,0,none⟩=some (.iface te pe)):=by
   intro x b c l hx;have hz0:=World.block_lt_of_cell? w1 ⟨0,0,none⟩ ce;have h0:(0:Nat)≠n0:=by rintro rfl;rw[c2] at ce;cases ce
   exact(World.cell?_of_block (a:=⟨0,0,none⟩) (hx.keep 0 (by omega) h0)).trans (hG.cell ce (by simp;omega))
  have HW:Hid (∀(x:World) {b:Option Addr} {c:Nat} {l:List Nd},FlI n0 w3 x b c l->Kin w x/\x.cell? ⟨n0+1,0,none⟩=some .nilIface/\x.frozen? ⟨n0+1,0,none⟩=false/\n0+1<x.heap.size):=by
   intro x b c l hx;have hk:=HK.out;have hn:=HN.out;have s0:=hk.size;have s1:=hG.size;have s2:=hx.size;refine⟨⟨(hx.os.trans hG.os).trans hk.os,(hx.out.trans hG.output).trans hk.out,by omega,fun y hy=>(hx.keep y (by omega) (by omega)).trans ((hG.block y (by omega) (by simp;omega)).trans (hk.block y hy))⟩,?_,?_,by omega⟩
   ·exact(World.cell?_of_block (a:=⟨n0+1,0,none⟩) (hx.keep (n0+1) (by omega) (by omega))).trans (hG.cell c3 (by simp;omega))
   ·exact(World.frozen?_of_block (a:=⟨n0+1,0,none⟩) (hx.keep (n0+1) (by omega) (by omega))).trans ((World.frozen?_of_block (a:=⟨n0+1,0,none⟩) (hG.block (n0+1) hl (by simp;omega))).trans f3)
  clear hK3 hG3 hgA hG hb1 hb2 hb4 hb5 hprog hRd hR3 hnod hr0;go_loopg [33] ts.length (fun gg x wr=>∃(k:Nat) (b:Option Addr) (c:Nat),x= .int .i64 k/\k<=ts.length/\gg=ts.length-k/\FlI n0 w3 wr b c (flatTs (ts.take k) 1))
  case atStart=>exact⟨0,none,0,rfl,Nat.zero_le _,rfl,d2,e2,World.ownsRow_nil _ _ _ _,rfl,rfl,Nat.le_refl _,fun _ _ _=>rfl⟩
  case round=>
   obtain⟨k,b,c,rfl,hk,hgg,hI⟩:=hrel
   have HI:=Lib.hid hI;have HGG:=Lib.hid hgg;have x1:=hI.cell;have x2:=hI.froz;clear hI hgg d2 e2 c2 c3 f2 f3 ce;by_cases hlt:k<ts.length
   ·have hkb:k<100000:=by have:=vw 1 ts;omega
    obtain⟨u,hu⟩:∃u,ts[k]? =some u:=⟨_,List.getElem?_eq_getElem hlt⟩
    have hne:ts≠[]:=by rintro rfl;simp at hlt
    have hbe:=HB1.out hne;subst hbe;have hTu:=HB5.out k u hu;have hOld:∀y,¬Old (ctxOf s te pe w1.heap.size (Value.slice sb (zr (pieces s)).length sc)) (w1.alloc (Obj.cells #[Value.slice sb (zr (pieces s)).length sc,Value.int IntKind.i64 0,Value.int IntKind.i64 ↑s.size] 86)) y->w1.heap.size+1<=y:=by
     intro y hy;unfold Old at hy;simp at hy;omega
    have hgn:g≠n0:=by have:=hOld g (HB2.out hne);omega
    have hgl:=World.block_lt_of_cell? w3 ⟨g,k,none⟩ (HB4.out k u hu);have hcell:wr.cell? ⟨g,k,none⟩=some (.pointer (some ⟨q k,0,none⟩)):=(World.cell?_of_block (a:=⟨g,k,none⟩) (HI.out.keep g hgl hgn)).trans (HB4.out k u hu);have hcnt2:(flatTs (ts.take k) 1).length+(flatT u 1).length<=(flatTs ts 1).length:=by
     have e:ts=ts.take k++u::ts.drop (k+1):=by
      rw[List.getElem?_eq_getElem hlt] at hu;rw[<-Option.some.inj hu,List.getElem_cons_drop,List.take_append_drop]
     have e2:=congrArg (fun x=>(flatTs x 1).length) e;simp only[zZ,flatTs,List.length_append] at e2;omega
    have l3:=qE 0 1 u;have hTA:TrAt (fun y=>w3.heap.size<=y\/y<w1.heap.size+1) w3 (q k) u:=hTu.bound.mono fun y hy=>by
     rcases hy with hy|hy
     ·exact .inr hy
     ·refine .inl ?_;unfold Old;simp;omega
    have hcall:=zgf (w1.heap.size+1) w3.heap.size w3 (Nat.le_refl _) (q k) u hTA wr _ _ 1 (fun y h1 h2=>HI.out.keep y h2 (by omega)) HI.out.size HI.out.own (by omega) (by omega) (by omega)
    have HU:=Lib.hid hu;clear hu hcnt2 l3 hTA hTu hOld;go_wp2_with (go_at_call 44;refine(hcall).mono ?_;rintro e w' ⟨v',rfl,hb',ho'⟩;obtain⟨b2,cc2,rfl⟩:=zfw ho';have y1:=(hb'.cell (p:=⟨n0,0,none⟩) hn3).trans x1;have y2:=(hb'.frozen (p:=⟨n0,0,none⟩) hn3).trans x2);have hst:=HI.out.step hn3 hb' ho';go_roundg (ts.length-(k+1))
    case measure=>have:=HGG.out;omega
    case rel=>
     have e:ts.take (k+1)=ts.take k++[u]:=by rw[List.take_add_one,HU.out];rfl
     have e3:flatTs (ts.take (k+1)) 1=flatTs (ts.take k) 1++flatT u 1:=by rw[e,zZ];simp[flatTs]
     refine⟨k+1,b2,cc2,by go_num,by omega,rfl,?_⟩
     rw[e3];rw[List.length_append] at hst;exact hst
   ·have hkk:k=ts.length:=by omega
    subst hkk;have hI:=HI.out;rw[List.take_length] at hI x1;generalize hll:flatTs ts 1=l at hI x1 hcnt;have HLL:=Lib.hid hll;have HI2:=Lib.hid hI;clear hll hI HI;by_cases hm:300<l.length
    ·have hdm:decide ((300:Int)<(l.length:Int))=true:=by simp;omega
     obtain⟨u,hu⟩:∃u,l[300]? =some u:=⟨_,List.getElem?_eq_getElem hm⟩
     have hz:wr.cell? ⟨0,0,none⟩=some (.iface te pe):=HZ.out wr HI2.out;obtain⟨gb,rfl⟩:∃gb,b=some ⟨gb,0,none⟩:=by
      rcases HI2.out.own.2 with⟨h1,h2⟩|⟨g',cap,cur,h1,_⟩
      ·omega
      ·exact⟨g',by simp at h1;exact h1.1⟩
     have hc5:wr.cell? ⟨gb,1805,none⟩=some (.int .i64 u.at_):=by
      have:=HI2.out.own.cells rfl 1805 (.int .i64 u.at_) ((nd_get hu 5 (by omega)).trans rfl)
      rw[show((⟨gb,0,none⟩:Addr).add 1805)=⟨gb,1805,none⟩ from by unfold Addr.add;split<;>simp_all] at this
      exact this
     go_wp2_with (go_at_call 41;refine(refused_any 32 u.at_ te pe _ hz).mono ?_;rintro e w' ⟨rfl,rfl⟩);rw[<-HQ.out];obtain⟨kw,z3,zf3,zl⟩:=HW.out wr HI2.out
     have g4:=World.grownBy_alloc wr (Obj.cells #[Value.int IntKind.i64 32,Value.int IntKind.i64 u.at_,Value.iface te pe] 73) none;have e:xR (Res.ok ts j)= .fault 32 u.at_:=by
      show jv (flatTs ts 1)=_;rw[HLL.out];unfold jv;rw[if_pos hm,hu];rfl
     rw[e];have s4:=g4.size;exact kf te pe w _ _ n0 wr.heap.size 32 u.at_ _ _ _ rfl rfl HN.out ⟨kw.os,kw.out,Nat.le_trans kw.size s4,fun x hx=>(g4.block x (by have:=kw.size;omega) (by simp)).trans (kw.block x hx)⟩
      (g4.cell x1 (by simp)) (g4.cell z3 (by simp)) ((World.frozen?_of_block (a:=⟨n0,0,none⟩) (g4.block n0 (by omega) (by simp))).trans x2) ((World.frozen?_of_block (a:=⟨n0+1,0,none⟩) (g4.block (n0+1) zl (by simp))).trans zf3) (by omega) (by omega) (heap_alloc_new wr _)
    ·have hdm:decide ((300:Int)<(l.length:Int))=false:=by simp;omega
     go_wp2;obtain⟨kw,z3,zf3,zl⟩:=HW.out wr HI2.out
     have hz:wr.cell? ⟨0,0,none⟩=some (.iface te pe):=HZ.out wr HI2.out;have hz0:=World.block_lt_of_cell? wr ⟨0,0,none⟩ hz;have HKW:=Lib.hid kw;clear kw;obtain⟨wo,rfl⟩:∃wo:World,wo=wr:=⟨_,rfl⟩
     go_loopg [52] l.length (fun gg x wq=>∃k:Nat,x= .int .i64 k/\k<=l.length/\gg=l.length-k/\Below wo.heap.size wo wq/\∀(i:Nat) (n:Nd),i<k->l[i]? =some n->¬24<n.depth)
     case atStart=>exact⟨0,rfl,Nat.zero_le _,rfl,Below.refl _ _,fun i n hi=>by omega⟩
     case round=>
      obtain⟨k,rfl,hk2,hgg,hbq,hsmall⟩:=hrel
      have HBQ:=Lib.hid hbq;have HSM:=Lib.hid hsmall;have HGG2:=Lib.hid hgg;clear hbq hsmall hgg;by_cases hlk:k<l.length
      ·obtain⟨u,hu⟩:∃u,l[k]? =some u:=⟨_,List.getElem?_eq_getElem hlk⟩
       obtain⟨gb,rfl⟩:∃gb,b=some ⟨gb,0,none⟩:=by
        rcases HI2.out.own.2 with⟨h1,h2⟩|⟨g',cap,cur,h1,_⟩
        ·omega
        ·exact⟨g',by simp at h1;exact h1.1⟩
       have hgl:=(HI2.out.own.lt gb rfl).2;have cells:∀o v,o<6->u.cells[o]? =some v->wr.cell? ⟨gb,k*6+o,none⟩=some v:=by
        intro o v ho hv;have:=HI2.out.own.cells rfl (k*6+o) v ((nd_get hu o ho).trans hv)
        rw[show((⟨gb,0,none⟩:Addr).add (k*6+o))=⟨gb,k*6+o,none⟩ from by unfold Addr.add;split<;>simp_all] at this
        exact(HBQ.out.cell (p:=⟨gb,k*6+o,none⟩) hgl).trans this
       have r0:=cells 0 _ (by omega) rfl
       have r1:=cells 1 _ (by omega) rfl
       have r2:=cells 2 _ (by omega) rfl
       have r3:=cells 3 _ (by omega) rfl
       have r4:=cells 4 _ (by omega) rfl
       have r5:=cells 5 _ (by omega) rfl
       simp only[Nat.add_zero] at r0;have hzq:wr.cell? ⟨0,0,none⟩=some (.iface te pe):=(HBQ.out.cell (p:=⟨0,0,none⟩) hz0).trans hz;have HU:=Lib.hid hu;have sq:=HBQ.out.size;clear cells hu;by_cases hd:(24:Int)<u.depth
       ·have hdd:decide ((24:Int)<u.depth)=true:=by simp[hd]
        have HD:=Lib.hid hd;clear hd;go_wp2_with (go_at_call 41;refine(refused_any 31 u.at_ te pe _ (by first|exact hzq|simpa using hzq|exact(World.grownBy_alloc wr _ none).cell hzq (by simp))).mono ?_;rintro e w' ⟨rfl,rfl⟩);rw[<-HQ.out];have hout:xR (Res.ok ts j)= .fault 31 u.at_:=by
         show jv (flatTs ts 1)=_;rw[HLL.out];unfold jv;rw[if_neg hm];have:l.find? (fun n=>decide (24<n.depth))=some u:=by
          rw[List.find?_eq_some_iff_getElem];refine⟨by simpa using HD.out,k,hlk,?_,fun i hi=>?_⟩
          ·have:=HU.out
           rw[List.getElem?_eq_getElem hlk] at this;exact Option.some.inj this
          ·have:=HSM.out i (l[i]'(by omega)) hi (List.getElem?_eq_getElem (by omega))
           simpa using this
         rw[this]
        rw[hout];have kw:=HKW.out;have skw:=kw.size;have hn:=HN.out;have g4:=World.grownBy_alloc wr (Obj.cells #[Value.int IntKind.i64 u.depth,Value.int IntKind.i64 u.kind,Value.string u.name,Value.int IntKind.i64 u.num,Value.int IntKind.i64 u.op,Value.int IntKind.i64 u.at_] 50) none;have g5:=World.grownBy_alloc (wr.alloc (Obj.cells #[Value.int IntKind.i64 u.depth,Value.int IntKind.i64 u.kind,Value.string u.name,Value.int IntKind.i64 u.num,Value.int IntKind.i64 u.op,Value.int IntKind.i64 u.at_] 50)) (Obj.cells #[Value.int IntKind.i64 31,Value.int IntKind.i64 u.at_,Value.iface te pe] 73) none;have g6:=grown_trans g4 g5;have s6:=g6.size;have w3s:=HI2.out.size;have y1:wr.cell? ⟨n0,0,none⟩=_:=(HBQ.out.cell (p:=⟨n0,0,none⟩) (by show n0<_;omega)).trans x1
        have y2:wr.frozen? ⟨n0,0,none⟩=false:=(HBQ.out.frozen (p:=⟨n0,0,none⟩) (by show n0<_;omega)).trans x2
        have y3:wr.cell? ⟨n0+1,0,none⟩=some .nilIface:=(HBQ.out.cell (p:=⟨n0+1,0,none⟩) zl).trans z3;have y4:wr.frozen? ⟨n0+1,0,none⟩=false:=(HBQ.out.frozen (p:=⟨n0+1,0,none⟩) zl).trans zf3;exact kf te pe w _ _ n0 (wr.heap.size+1) 31 u.at_ _ _ _ rfl rfl hn ⟨HBQ.out.os.trans kw.os,HBQ.out.output.trans kw.out,by omega,fun x hx=>(g6.block x (by omega) (by simp)).trans ((HBQ.out.block x (by omega)).trans (kw.block x hx))⟩
         (g6.cell y1 (by simp)) (g6.cell y3 (by simp)) ((World.frozen?_of_block (a:=⟨n0,0,none⟩) (g6.block n0 (by omega) (by simp))).trans y2) ((World.frozen?_of_block (a:=⟨n0+1,0,none⟩) (g6.block (n0+1) (by omega) (by simp))).trans y4) (by omega) (by omega) (by simpa using heap_alloc_new (wr.alloc (Obj.cells #[Value.int IntKind.i64 u.depth,Value.int IntKind.i64 u.kind,Value.string u.name,Value.int IntKind.i64 u.num,Value.int IntKind.i64 u.op,Value.int IntKind.i64 u.at_] 50)) (Obj.cells #[Value.int IntKind.i64 31,Value.int IntKind.i64 u.at_,Value.iface te pe] 73))
       ·have hdd:decide ((24:Int)<u.depth)=false:=by simp;omega
        have HD:=Lib.hid hd;clear hd;go_wp2;go_roundg (l.length-(k+1))
        case measure=>have:=HGG2.out;omega
        case rel=>
         refine⟨k+1,by go_num,by omega,rfl,HBQ.out.alloc sq _,fun i n hi hin=>?_⟩
         by_cases hik:i=k
         ·subst hik;rw[HU.out] at hin;cases hin;exact HD.out
         ·exact HSM.out i n (by omega) hin
      ·have hI:=HI2.out;have y1:wr.cell? ⟨n0,0,none⟩=some (.slice b l.length c):=(HBQ.out.cell (p:=⟨n0,0,none⟩) (by have:=hI.size;show n0<_;omega)).trans x1
       have y2:wr.frozen? ⟨n0,0,none⟩=false:=(HBQ.out.frozen (p:=⟨n0,0,none⟩) (by have:=hI.size;show n0<_;omega)).trans x2
       have y3:wr.cell? ⟨n0+1,0,none⟩=some .nilIface:=(HBQ.out.cell (p:=⟨n0+1,0,none⟩) zl).trans z3;have y4:wr.frozen? ⟨n0+1,0,none⟩=false:=(HBQ.out.frozen (p:=⟨n0+1,0,none⟩) zl).trans zf3;have HIH:=Lib.hid hI;clear hI;go_wp2;rw[<-HQ.out];have hn:=HN.out;have kw:=HKW.out;have sq:=HBQ.out.size;have skw:=kw.size;have hkl:k=l.length:=by omega
       have hout:xR (Res.ok ts j)= .tree l:=by
        show jv (flatTs ts 1)=_;rw[HLL.out];unfold jv;rw[if_neg hm];have:l.find? (fun n=>decide (24<n.depth))=none:=by
         rw[List.find?_eq_none];intro x hx hd;obtain⟨i,hi,hix⟩:=List.getElem_of_mem hx
         have h9:=HSM.out i x (by omega) (by rw[List.getElem?_eq_getElem hi,hix])
         have h10:24<x.depth:=by simpa using hd
         omega
        rw[this]
       rw[hout];have g1:=zB wr n0 0 (.slice b l.length c);have g2:=zB (wr.setCell ⟨n0,0,none⟩ (.slice b l.length c)) (n0+1) 0 .nilIface;have p2:((wr.setCell ⟨n0,0,none⟩ (.slice b l.length c)).setCell ⟨n0+1,0,none⟩ .nilIface).cell? ⟨n0,0,none⟩=some (.slice b l.length c):=by simp[go_sem,y1]
       have p3:((wr.setCell ⟨n0,0,none⟩ (.slice b l.length c)).setCell ⟨n0+1,0,none⟩ .nilIface).cell? ⟨n0+1,0,none⟩=some .nilIface:=by simp[go_sem,y3]
       have s1:=g1.size;have s2:=g2.size;refine zcO te pe w _ _ n0 l b c rfl rfl ⟨(HBQ.out.os.trans kw.os),(HBQ.out.output.trans kw.out),by omega,fun x hx=>?_⟩ p2 p3 ?_
       ·exact(g2.block x (by omega) (by simp;omega)).trans ((g1.block x (by omega) (by simp;omega)).trans ((HBQ.out.block x (by omega)).trans (kw.block x hx)))
       ·have ho:=HIH.out.own;have w3s:=HIH.out.size;have hrow:=fun y (hy:(Value.slice b l.length c).ownBlock=some y)=>ho.lt y hy;have ho1:wr.ownsRow w3.heap.size 50 6 (.slice b l.length c) l.length (ndCells l):=by
         refine⟨ho.1,ho.2.imp id fun⟨g',cap,cur,h1,h2,h3,h4⟩=>⟨g',cap,cur,h1,h2,?_,h4⟩⟩;rw[HBQ.out.block g' (Array.getElem?_eq_some_iff.1 h3).1];exact h3
        have ne2:∀z:Nat,z<=n0+1->z<w3.heap.size->((Value.slice b l.length c).ownBlock=none\/(Value.slice b l.length c).ownBlock≠some z):=fun z h1 h2=>by
         cases hv:(Value.slice b l.length c).ownBlock with
         |none=>exact .inl rfl
         |some y=>right;have:=hrow y hv;simp;omega
        have ho2:=(ho1.kept g1 (ne2 n0 (by omega) hn3)).kept g2 (ne2 (n0+1) (by omega) (by omega))
        exact⟨ho2.1,ho2.2.imp id fun⟨g',cap,cur,h1,h2,h3⟩=>⟨g',cap,cur,h1,by omega,h3⟩⟩
end Go.Proofs.YtonmcakdofbjiaaGreatDoor
