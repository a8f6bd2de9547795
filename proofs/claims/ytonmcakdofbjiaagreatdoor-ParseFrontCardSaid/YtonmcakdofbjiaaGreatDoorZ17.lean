/- A part. -/
import Derived.Test.YtonmcakdofbjiaaGreatDoorZ16
set_option linter.all false
set_option maxRecDepth 100000
set_option maxHeartbeats 8000000
namespace Go.Proofs.YtonmcakdofbjiaaGreatDoor
open Go.RowKit
theorem want_at(C:Ctx)(i:Nat)(s:ByteArray)(w:World)(p:Nat)(hp:p=w.heap.size)(h:Rd C i w)(hc:comesB C.l i s=true):Calls Tryz.prog 82 #[.pointer (some ⟨C.r,0,none⟩), .slice (some ⟨p,0,none⟩) 1 1] (w.alloc (.cells #[.string s] 9)) fun x w'=>x= .returned (.tuple #[])/\Rd C (i+1) w'/\Grew C w w':=by
 subst hp
 exact want_any C i s w h hc
theorem wantnot_at(C:Ctx)(i:Nat)(s:ByteArray)(w:World)(p:Nat)(hp:p=w.heap.size)(h:Rd C i w)(hc:comesB C.l i s=false):Calls Tryz.prog 82 #[.pointer (some ⟨C.r,0,none⟩), .slice (some ⟨p,0,none⟩) 1 1] (w.alloc (.cells #[.string s] 9)) fun x w'=>∃ch,x= .panicked ch/\qT C w (placeOf C.l C.e i) ch w':=by
 subst hp
 exact want_not C i s w h hc
theorem vK:(Tryz.prog.info? 89).map (fun i=>(i.zero,i.size,i.bytes))=some (some (.pointer none),1,8):=by kernel_rfl
def wL(C:Ctx)(w0:World):List Tr->Value->World->Prop:=fun ts v w'=>(ts=[]/\v= .pointer none)\/zI C w0 ts v w'
theorem stmt_of_tree{C:Ctx}{w0 w:World}{r:Res (List Tr)}{e:Ending}{w':World}(h:zH C w r (zI C w0) e w'):zH C w r (wL C w0) e w':=by
 cases e with
 |returned v=>obtain⟨a,j,h1,h2,h3⟩:=h;exact⟨a,j,h1, .inr h2,h3⟩
 |panicked ch=>exact h
 |outgrown=>exact h
def zbC(C:Ctx)(f:Nat):Prop:=∀i w r,rd C f .block i=some r->Rd C i w->Calls Tryz.prog 158 #[.pointer (some ⟨C.r,0,none⟩)] w (zH C w r (zI C w))
def zen(C:Ctx)(f:Nat):Prop:=∀i w r,rd C f .stmt i=some r->Rd C i w->Calls Tryz.prog 122 #[.pointer (some ⟨C.r,0,none⟩)] w (zH C w r (wL C w))
theorem yE{C:Ctx}{wB w1 w2 w:World}{v:Value}{p:Nat}{t:Tr}(hT:TrAt (Old C w1) w p t)(hB:wB.heap.size<=w1.heap.size)(hv:∀k,v.ownBlock=some k->k<w1.heap.size):
 ∀(j:Nat) (u:Tr),[t][j]? =some u->∃q,[p][j]? =some q/\TrAt (fun k=>Old C wB k\/v.ownBlock=some k) w q u:=by
 intro j u hj
 match j,hj with
 |0,hj=>
  simp at hj;subst hj
  exact⟨p,rfl,hT.mono fun k hk=>hk.elim (old_sz hB k) fun h=> .inr (hv k h)⟩
 |j+1,hj=>simp at hj
theorem vY{C:Ctx}{wB w1 w2 w:World}{v:Value}{p q:Nat}{t u:Tr}(hT:TrAt (Old C w1) w p t)(hB:wB.heap.size<=w1.heap.size)(hv:∀k,v.ownBlock=some k->k<w1.heap.size)(hT2:TrAt (Old C w2) w q u)(hB2:wB.heap.size<=w2.heap.size)(hv2:∀k,v.ownBlock=some k->k<w2.heap.size):
 ∀(j:Nat) (x:Tr),[t,u][j]? =some x->∃y,[p,q][j]? =some y/\TrAt (fun k=>Old C wB k\/v.ownBlock=some k) w y x:=by
 intro j x hj
 match j,hj with
 |0,hj=>
  simp at hj;subst hj
  exact⟨p,rfl,hT.mono fun k hk=>hk.elim (old_sz hB k) fun h=> .inr (hv k h)⟩
 |1,hj=>
  simp at hj;subst hj
  exact⟨q,rfl,hT2.mono fun k hk=>hk.elim (old_sz hB2 k) fun h=> .inr (hv2 k h)⟩
 |j+2,hj=>simp at hj
theorem zk(k:Nat):(Value.slice none 0 0).ownBlock=some k->False:=fun h=>by cases h
theorem stmt_step(C:Ctx)(n:Nat)(hB:zbC C n):zen C (n+1):=by
 intro i w r hr h
 have hX:=(exprs_all C n).expr
 have hat:=yD C i w h
 simp only[rd] at hr
 have HR:=Lib.hid hr
 have HX:=Lib.hid hX
 have HBL:=Lib.hid hB
 have hlt:=h.lt
 have H0:=Lib.hid h
 obtain⟨ti,hi,hz0,hz1,hz2⟩:=info_parts vK
 clear hr hX hB h
 go_enter Tryz.func122,Tryz.ntmps122
 go_upto_region 4 with(go_at_call 78;refine(hat).mono ?_;rintro e w1 ⟨rfl,hR1,hG1⟩)
 have S0:StI C w i w1.heap.size (w1.heap.size+1) 0 ⟨#[]⟩ 0 (placeOf C.l C.e i) i (w1.alloc (Obj.cells #[Value.int IntKind.i64 0,Value.int IntKind.i64 0,Value.string {data:= #[]},Value.int IntKind.i64 0,Value.int IntKind.i64 0,Value.int IntKind.i64 (placeOf C.l C.e i)] 50)):=
  ⟨H0.out,hR1.alloc _,grown_trans hG1 (World.grownBy_alloc _ _ _),xy _ _ _ _ _ _ _ _,hG1.size,by simp,by simp⟩
 have hwb:w.heap.size<=(w1.alloc (Obj.cells #[Value.int IntKind.i64 0,Value.int IntKind.i64 0,Value.string {data:= #[]},Value.int IntKind.i64 0,Value.int IntKind.i64 0,Value.int IntKind.i64 (placeOf C.l C.e i)] 50)).heap.size:=by have:=hG1.size;simp;omega
 have hbe:w1.heap.size+1=(w1.alloc (Obj.cells #[Value.int IntKind.i64 0,Value.int IntKind.i64 0,Value.string {data:= #[]},Value.int IntKind.i64 0,Value.int IntKind.i64 0,Value.int IntKind.i64 (placeOf C.l C.e i)] 50)).heap.size:=by simp
 rw[hbe] at S0
 have hNB:w1.heap.size<(w1.alloc (Obj.cells #[Value.int IntKind.i64 0,Value.int IntKind.i64 0,Value.string {data:= #[]},Value.int IntKind.i64 0,Value.int IntKind.i64 0,Value.int IntKind.i64 (placeOf C.l C.e i)] 50)).heap.size:=by simp
 clear hbe hat
 generalize (w1.alloc (Obj.cells #[Value.int IntKind.i64 0,Value.int IntKind.i64 0,Value.string {data:= #[]},Value.int IntKind.i64 0,Value.int IntKind.i64 0,Value.int IntKind.i64 (placeOf C.l C.e i)] 50))=wB at S0 hwb hNB⊢
 generalize w1.heap.size=N at S0 hNB⊢
 have hrB:C.r<wB.heap.size:=by omega
 clear hR1 hG1
 have hr:=HR.out
 by_cases c0:namedB C.l i=true
 ·rw[if_pos c0] at hr
  by_cases c1:comesB C.l (i+1) ⟨#[91]⟩=true
  ·rw[if_pos c1] at hr
   cases hxa:rd C n (.row 0) (i+2) with
   |none=>rw[hxa] at hr;cases hr
   |some ya=>
    rw[hxa] at hr
    have hSa:=fun W a=>HX.out (i+2) W ya hxa a
    clear hxa
    cases ya with
    |no p=>
     obtain rfl:Res.no p=r:=by simpa only [andThen,Option.some.injEq] using hr
     have hSa:=fun W a=>zF (hSa W a)
     clear hr HX HBL HR
     go_wp2_with (first|(go_at_call 121;with_reducible refine(named_yes C i _ S0.rd c0).mono ?_;rintro e w1 ⟨rfl,hR1,hG1⟩;have S1:=S0.call hR1 hG1)|(go_at_call 81;with_reducible refine(name_yes C i _ S1.rd c0).mono ?_;rintro e w2 ⟨rfl,hR2,hG2⟩;have S2:=S1.call hR2 hG2;have zc2:=S2.six.c1;have zf2:=S2.six.f1;have yc2:=S2.six.c2;have yf2:=S2.six.f2)|(go_at_call 79;with_reducible refine(skip_yes C (i+1) ⟨#[91]⟩ _ ((S2.setKind 2).setName (textAt C.l i)).rd c1).mono ?_;rintro e w3 ⟨rfl,hR3,hG3⟩;have S3:=((S2.setKind 2).setName (textAt C.l i)).call hR3 hG3;have zc3:=S3.six.c1;have zf3:=S3.six.f1;have yc3:=S3.six.c2;have yf3:=S3.six.f2)|(go_at_call 157;with_reducible refine(hSa _ (S3.setKind 3).rd).mono ?_;rintro e w4 ⟨ch,rfl,hF⟩))
     exact⟨rfl,_,rfl,hF.later (S3.setKind 3).grew⟩
    |ok tsa ja=>
     have hSa:=fun W a=>zy (hSa W a)
     simp only[andThen] at hr
     by_cases c2:comesB C.l ja ⟨#[93]⟩=true
     ·simp only[wantR,if_pos c2,andThen] at hr
      by_cases c3:comesB C.l (ja+1) ⟨#[58,61]⟩=true
      ·simp only[wantR,if_pos c3,andThen] at hr
       cases hxb:rd C n (.row 0) (ja+1+1) with
       |none=>rw[hxb] at hr;cases hr
       |some yb=>
        rw[hxb] at hr
        have hSb:=fun W a=>HX.out (ja+1+1) W yb hxb a
        clear hxb
        cases yb with
        |no p=>
         obtain rfl:Res.no p=r:=by simpa only [andThen,Option.some.injEq] using hr
         have hSb:=fun W a=>zF (hSb W a)
         clear hr HX HBL HR
         go_wp2_with (first|(go_at_call 121;with_reducible refine(named_yes C i _ S0.rd c0).mono ?_;rintro e w1 ⟨rfl,hR1,hG1⟩;have S1:=S0.call hR1 hG1)|(go_at_call 81;with_reducible refine(name_yes C i _ S1.rd c0).mono ?_;rintro e w2 ⟨rfl,hR2,hG2⟩;have S2:=S1.call hR2 hG2;have zc2:=S2.six.c1;have zf2:=S2.six.f1;have yc2:=S2.six.c2;have yf2:=S2.six.f2)|(go_at_call 79;with_reducible refine(skip_yes C (i+1) ⟨#[91]⟩ _ ((S2.setKind 2).setName (textAt C.l i)).rd c1).mono ?_;rintro e w3 ⟨rfl,hR3,hG3⟩;have S3:=((S2.setKind 2).setName (textAt C.l i)).call hR3 hG3;have zc3:=S3.six.c1;have zf3:=S3.six.f1;have yc3:=S3.six.c2;have yf3:=S3.six.f2)|(go_at_call 157;with_reducible refine(hSa _ (S3.setKind 3).rd).mono ?_;rintro e w4 ⟨t4,p4,ht4,rfl,hT4,hR4,hG4⟩;have S4:=(S3.setKind 3).call hR4 hG4;subst ht4)|(at_builtin;refine zg _ rfl (.tmp 18) (.tmp 21) 87 rfl wB.heap.size 89 ti _ 1 8 Tryz.underlying87 hi hz0 hz1 hz2 rfl (by decide) _ 0 [] rfl (World.ownsRow_nil _ _ _ _) ⟨w4.heap.size,0,none⟩ 1 1 [ptrV p4] rfl rfl (new1 w4 p4) (yT [p4]) (by simp[maxLen]) (by simp) (by have:=S4.big;simp;omega) ?_;intro v5 w5 hown5 hgrow5 hv5;have S5:=(S4.alloc (Obj.cells #[Value.pointer (some ⟨p4,0,none⟩)] 89)).grown hgrow5 (fun k hk=>(zk k hk).elim);have K5:=KidsOwn.append (C:=C) (w0:=wB) (w:=w4) (v:=(Value.slice none 0 0)) (ks:=[]) (ps:=([]:List Nat)) (qs:=[p4]) (ts:=[t4]) rfl (fun j t hj=>by simp at hj) rfl (yE (w2:=wB) hT4 (S3.setKind 3).big (fun k hk=>(zk k hk).elim)) (o:=(Obj.cells #[Value.pointer (some ⟨p4,0,none⟩)] 89)) hown5 hgrow5 hv5;clear hown5 hgrow5 hv5)|(go_at_call 82;with_reducible refine(want_at C ja ⟨#[93]⟩ _ _ (by simp) S5.rd c2).mono ?_;rintro e w6 ⟨rfl,hR6,hG6⟩;have S6:=S5.call hR6 hG6;have K6:=K5.grew hrB hG6)|(go_at_call 82;with_reducible refine(want_at C (ja+1) ⟨#[58,61]⟩ _ _ (by simp) S6.rd c3).mono ?_;rintro e w7 ⟨rfl,hR7,hG7⟩;have S7:=S6.call hR7 hG7;have K7:=K6.grew hrB hG7)|(go_at_call 157;with_reducible refine(hSb _ S7.rd).mono ?_;rintro e w8 ⟨ch,rfl,hF⟩))
         exact⟨rfl,_,rfl,hF.later S7.grew⟩
        |ok tsb jb=>
         have hSb:=fun W a=>zy (hSb W a)
         simp only[andThen] at hr
         by_cases c5:comesB C.l jb ⟨#[59]⟩=true
         ·simp only[wantR,if_pos c5,andThen] at hr
          have HE:=Lib.hid (Option.some.inj hr)
          clear hr HX HBL HR
          go_wp2_with (first|(go_at_call 121;with_reducible refine(named_yes C i _ S0.rd c0).mono ?_;rintro e w1 ⟨rfl,hR1,hG1⟩;have S1:=S0.call hR1 hG1)|(go_at_call 81;with_reducible refine(name_yes C i _ S1.rd c0).mono ?_;rintro e w2 ⟨rfl,hR2,hG2⟩;have S2:=S1.call hR2 hG2;have zc2:=S2.six.c1;have zf2:=S2.six.f1;have yc2:=S2.six.c2;have yf2:=S2.six.f2)|(go_at_call 79;with_reducible refine(skip_yes C (i+1) ⟨#[91]⟩ _ ((S2.setKind 2).setName (textAt C.l i)).rd c1).mono ?_;rintro e w3 ⟨rfl,hR3,hG3⟩;have S3:=((S2.setKind 2).setName (textAt C.l i)).call hR3 hG3;have zc3:=S3.six.c1;have zf3:=S3.six.f1;have yc3:=S3.six.c2;have yf3:=S3.six.f2)|(go_at_call 157;with_reducible refine(hSa _ (S3.setKind 3).rd).mono ?_;rintro e w4 ⟨t4,p4,ht4,rfl,hT4,hR4,hG4⟩;have S4:=(S3.setKind 3).call hR4 hG4;subst ht4)|(at_builtin;refine zg _ rfl (.tmp 18) (.tmp 21) 87 rfl wB.heap.size 89 ti _ 1 8 Tryz.underlying87 hi hz0 hz1 hz2 rfl (by decide) _ 0 [] rfl (World.ownsRow_nil _ _ _ _) ⟨w4.heap.size,0,none⟩ 1 1 [ptrV p4] rfl rfl (new1 w4 p4) (yT [p4]) (by simp[maxLen]) (by simp) (by have:=S4.big;simp;omega) ?_;intro v5 w5 hown5 hgrow5 hv5;have S5:=(S4.alloc (Obj.cells #[Value.pointer (some ⟨p4,0,none⟩)] 89)).grown hgrow5 (fun k hk=>(zk k hk).elim);have K5:=KidsOwn.append (C:=C) (w0:=wB) (w:=w4) (v:=(Value.slice none 0 0)) (ks:=[]) (ps:=([]:List Nat)) (qs:=[p4]) (ts:=[t4]) rfl (fun j t hj=>by simp at hj) rfl (yE (w2:=wB) hT4 (S3.setKind 3).big (fun k hk=>(zk k hk).elim)) (o:=(Obj.cells #[Value.pointer (some ⟨p4,0,none⟩)] 89)) hown5 hgrow5 hv5;clear hown5 hgrow5 hv5)|(go_at_call 82;with_reducible refine(want_at C ja ⟨#[93]⟩ _ _ (by simp) S5.rd c2).mono ?_;rintro e w6 ⟨rfl,hR6,hG6⟩;have S6:=S5.call hR6 hG6;have K6:=K5.grew hrB hG6)|(go_at_call 82;with_reducible refine(want_at C (ja+1) ⟨#[58,61]⟩ _ _ (by simp) S6.rd c3).mono ?_;rintro e w7 ⟨rfl,hR7,hG7⟩;have S7:=S6.call hR7 hG7;have K7:=K6.grew hrB hG7)|(go_at_call 157;with_reducible refine(hSb _ S7.rd).mono ?_;rintro e w8 ⟨t8,p8,ht8,rfl,hT8,hR8,hG8⟩;have S8:=S7.call hR8 hG8;have K8:=K7.grew hrB hG8;subst ht8)|(at_builtin;obtain⟨ps9,hl9,ho9,ht9⟩:=id K8;refine zg _ rfl (.tmp 29) (.tmp 32) 87 rfl wB.heap.size 89 ti _ 1 8 Tryz.underlying87 hi hz0 hz1 hz2 rfl (by decide) _ _ (ps9.map ptrV) rfl (ho9.alloc _) ⟨w8.heap.size,0,none⟩ 1 1 [ptrV p8] rfl rfl (new1 w8 p8) (yT [p8]) (by simp[maxLen]) (by simp) (by have:=S8.big;simp;omega) ?_;intro v9 w9 hown9 hgrow9 hv9;have S9:=(S8.alloc (Obj.cells #[Value.pointer (some ⟨p8,0,none⟩)] 89)).grown hgrow9 (fun k hk=>by have:=K8.row hrB hk;omega);have K9:=KidsOwn.append (C:=C) (w0:=wB) (w:=w8) (v:=_) (ks:=_) (ps:=ps9) (qs:=[p8]) (ts:=[t8]) hl9 ht9 rfl (yE (w2:=wB) hT8 S7.big (fun k hk=>(K7.row hrB hk).2.2)) (o:=(Obj.cells #[Value.pointer (some ⟨p8,0,none⟩)] 89)) hown9 hgrow9 hv9;clear hown9 hgrow9 hv9)|(go_at_call 82;with_reducible refine(want_at C jb ⟨#[59]⟩ _ _ (by simp) S9.rd c5).mono ?_;rintro e w10 ⟨rfl,hR10,hG10⟩;have S10:=S9.call hR10 hG10;have a010:=S10.six.c0;have a110:=S10.six.c1;have a210:=S10.six.c2;have a310:=S10.six.c3;have a410:=S10.six.c4;have a510:=S10.six.c5;have K10:=K9.grew hrB hG10;obtain⟨bb,cc,rfl,hKK⟩:=K10.kids hrB)|(go_at_call 80;with_reducible refine(leaf_any ⟨0,3,textAt C.l i,0,0,placeOf C.l C.e i⟩ _ _ _ _).mono ?_;rintro e wl ⟨rfl,rfl⟩))
          go_ret
          exact stmt_of_tree (post_node (wB:=wB) ⟨0,3,textAt C.l i,0,0,placeOf C.l C.e i⟩ HE.out.symm hKK hwb S10.rd S10.grew)
         ·have c5n:comesB C.l jb ⟨#[59]⟩=false:=by simpa using c5
          simp only[wantR,if_neg c5,andThen,Option.some.injEq] at hr
          subst hr
          clear c5 HX HBL HR
          go_wp2_with (first|(go_at_call 121;with_reducible refine(named_yes C i _ S0.rd c0).mono ?_;rintro e w1 ⟨rfl,hR1,hG1⟩;have S1:=S0.call hR1 hG1)|(go_at_call 81;with_reducible refine(name_yes C i _ S1.rd c0).mono ?_;rintro e w2 ⟨rfl,hR2,hG2⟩;have S2:=S1.call hR2 hG2;have zc2:=S2.six.c1;have zf2:=S2.six.f1;have yc2:=S2.six.c2;have yf2:=S2.six.f2)|(go_at_call 79;with_reducible refine(skip_yes C (i+1) ⟨#[91]⟩ _ ((S2.setKind 2).setName (textAt C.l i)).rd c1).mono ?_;rintro e w3 ⟨rfl,hR3,hG3⟩;have S3:=((S2.setKind 2).setName (textAt C.l i)).call hR3 hG3;have zc3:=S3.six.c1;have zf3:=S3.six.f1;have yc3:=S3.six.c2;have yf3:=S3.six.f2)|(go_at_call 157;with_reducible refine(hSa _ (S3.setKind 3).rd).mono ?_;rintro e w4 ⟨t4,p4,ht4,rfl,hT4,hR4,hG4⟩;have S4:=(S3.setKind 3).call hR4 hG4;subst ht4)|(at_builtin;refine zg _ rfl (.tmp 18) (.tmp 21) 87 rfl wB.heap.size 89 ti _ 1 8 Tryz.underlying87 hi hz0 hz1 hz2 rfl (by decide) _ 0 [] rfl (World.ownsRow_nil _ _ _ _) ⟨w4.heap.size,0,none⟩ 1 1 [ptrV p4] rfl rfl (new1 w4 p4) (yT [p4]) (by simp[maxLen]) (by simp) (by have:=S4.big;simp;omega) ?_;intro v5 w5 hown5 hgrow5 hv5;have S5:=(S4.alloc (Obj.cells #[Value.pointer (some ⟨p4,0,none⟩)] 89)).grown hgrow5 (fun k hk=>(zk k hk).elim);have K5:=KidsOwn.append (C:=C) (w0:=wB) (w:=w4) (v:=(Value.slice none 0 0)) (ks:=[]) (ps:=([]:List Nat)) (qs:=[p4]) (ts:=[t4]) rfl (fun j t hj=>by simp at hj) rfl (yE (w2:=wB) hT4 (S3.setKind 3).big (fun k hk=>(zk k hk).elim)) (o:=(Obj.cells #[Value.pointer (some ⟨p4,0,none⟩)] 89)) hown5 hgrow5 hv5;clear hown5 hgrow5 hv5)|(go_at_call 82;with_reducible refine(want_at C ja ⟨#[93]⟩ _ _ (by simp) S5.rd c2).mono ?_;rintro e w6 ⟨rfl,hR6,hG6⟩;have S6:=S5.call hR6 hG6;have K6:=K5.grew hrB hG6)|(go_at_call 82;with_reducible refine(want_at C (ja+1) ⟨#[58,61]⟩ _ _ (by simp) S6.rd c3).mono ?_;rintro e w7 ⟨rfl,hR7,hG7⟩;have S7:=S6.call hR7 hG7;have K7:=K6.grew hrB hG7)|(go_at_call 157;with_reducible refine(hSb _ S7.rd).mono ?_;rintro e w8 ⟨t8,p8,ht8,rfl,hT8,hR8,hG8⟩;have S8:=S7.call hR8 hG8;have K8:=K7.grew hrB hG8;subst ht8)|(at_builtin;obtain⟨ps9,hl9,ho9,ht9⟩:=id K8;refine zg _ rfl (.tmp 29) (.tmp 32) 87 rfl wB.heap.size 89 ti _ 1 8 Tryz.underlying87 hi hz0 hz1 hz2 rfl (by decide) _ _ (ps9.map ptrV) rfl (ho9.alloc _) ⟨w8.heap.size,0,none⟩ 1 1 [ptrV p8] rfl rfl (new1 w8 p8) (yT [p8]) (by simp[maxLen]) (by simp) (by have:=S8.big;simp;omega) ?_;intro v9 w9 hown9 hgrow9 hv9;have S9:=(S8.alloc (Obj.cells #[Value.pointer (some ⟨p8,0,none⟩)] 89)).grown hgrow9 (fun k hk=>by have:=K8.row hrB hk;omega);have K9:=KidsOwn.append (C:=C) (w0:=wB) (w:=w8) (v:=_) (ks:=_) (ps:=ps9) (qs:=[p8]) (ts:=[t8]) hl9 ht9 rfl (yE (w2:=wB) hT8 S7.big (fun k hk=>(K7.row hrB hk).2.2)) (o:=(Obj.cells #[Value.pointer (some ⟨p8,0,none⟩)] 89)) hown9 hgrow9 hv9;clear hown9 hgrow9 hv9)|(go_at_call 82;with_reducible refine(wantnot_at C jb ⟨#[59]⟩ _ _ (by simp) S9.rd c5n).mono ?_;rintro e w10 ⟨ch,rfl,hF⟩))
          exact⟨rfl,_,rfl,hF.later S9.grew⟩
      ·have c3n:comesB C.l (ja+1) ⟨#[58,61]⟩=false:=by simpa using c3
       simp only[wantR,if_neg c3,andThen,Option.some.injEq] at hr
       subst hr
       clear c3 HX HBL HR
       go_wp2_with (first|(go_at_call 121;with_reducible refine(named_yes C i _ S0.rd c0).mono ?_;rintro e w1 ⟨rfl,hR1,hG1⟩;have S1:=S0.call hR1 hG1)|(go_at_call 81;with_reducible refine(name_yes C i _ S1.rd c0).mono ?_;rintro e w2 ⟨rfl,hR2,hG2⟩;have S2:=S1.call hR2 hG2;have zc2:=S2.six.c1;have zf2:=S2.six.f1;have yc2:=S2.six.c2;have yf2:=S2.six.f2)|(go_at_call 79;with_reducible refine(skip_yes C (i+1) ⟨#[91]⟩ _ ((S2.setKind 2).setName (textAt C.l i)).rd c1).mono ?_;rintro e w3 ⟨rfl,hR3,hG3⟩;have S3:=((S2.setKind 2).setName (textAt C.l i)).call hR3 hG3;have zc3:=S3.six.c1;have zf3:=S3.six.f1;have yc3:=S3.six.c2;have yf3:=S3.six.f2)|(go_at_call 157;with_reducible refine(hSa _ (S3.setKind 3).rd).mono ?_;rintro e w4 ⟨t4,p4,ht4,rfl,hT4,hR4,hG4⟩;have S4:=(S3.setKind 3).call hR4 hG4;subst ht4)|(at_builtin;refine zg _ rfl (.tmp 18) (.tmp 21) 87 rfl wB.heap.size 89 ti _ 1 8 Tryz.underlying87 hi hz0 hz1 hz2 rfl (by decide) _ 0 [] rfl (World.ownsRow_nil _ _ _ _) ⟨w4.heap.size,0,none⟩ 1 1 [ptrV p4] rfl rfl (new1 w4 p4) (yT [p4]) (by simp[maxLen]) (by simp) (by have:=S4.big;simp;omega) ?_;intro v5 w5 hown5 hgrow5 hv5;have S5:=(S4.alloc (Obj.cells #[Value.pointer (some ⟨p4,0,none⟩)] 89)).grown hgrow5 (fun k hk=>(zk k hk).elim);have K5:=KidsOwn.append (C:=C) (w0:=wB) (w:=w4) (v:=(Value.slice none 0 0)) (ks:=[]) (ps:=([]:List Nat)) (qs:=[p4]) (ts:=[t4]) rfl (fun j t hj=>by simp at hj) rfl (yE (w2:=wB) hT4 (S3.setKind 3).big (fun k hk=>(zk k hk).elim)) (o:=(Obj.cells #[Value.pointer (some ⟨p4,0,none⟩)] 89)) hown5 hgrow5 hv5;clear hown5 hgrow5 hv5)|(go_at_call 82;with_reducible refine(want_at C ja ⟨#[93]⟩ _ _ (by simp) S5.rd c2).mono ?_;rintro e w6 ⟨rfl,hR6,hG6⟩;have S6:=S5.call hR6 hG6;have K6:=K5.grew hrB hG6)|(go_at_call 82;with_reducible refine(wantnot_at C (ja+1) ⟨#[58,61]⟩ _ _ (by simp) S6.rd c3n).mono ?_;rintro e w7 ⟨ch,rfl,hF⟩))
       exact⟨rfl,_,rfl,hF.later S6.grew⟩
     ·have c2n:comesB C.l ja ⟨#[93]⟩=false:=by simpa using c2
      simp only[wantR,if_neg c2,andThen,Option.some.injEq] at hr
      subst hr
      clear c2 HX HBL HR
      go_wp2_with (first|(go_at_call 121;with_reducible refine(named_yes C i _ S0.rd c0).mono ?_;rintro e w1 ⟨rfl,hR1,hG1⟩;have S1:=S0.call hR1 hG1)|(go_at_call 81;with_reducible refine(name_yes C i _ S1.rd c0).mono ?_;rintro e w2 ⟨rfl,hR2,hG2⟩;have S2:=S1.call hR2 hG2;have zc2:=S2.six.c1;have zf2:=S2.six.f1;have yc2:=S2.six.c2;have yf2:=S2.six.f2)|(go_at_call 79;with_reducible refine(skip_yes C (i+1) ⟨#[91]⟩ _ ((S2.setKind 2).setName (textAt C.l i)).rd c1).mono ?_;rintro e w3 ⟨rfl,hR3,hG3⟩;have S3:=((S2.setKind 2).setName (textAt C.l i)).call hR3 hG3;have zc3:=S3.six.c1;have zf3:=S3.six.f1;have yc3:=S3.six.c2;have yf3:=S3.six.f2)|(go_at_call 157;with_reducible refine(hSa _ (S3.setKind 3).rd).mono ?_;rintro e w4 ⟨t4,p4,ht4,rfl,hT4,hR4,hG4⟩;have S4:=(S3.setKind 3).call hR4 hG4;subst ht4)|(at_builtin;refine zg _ rfl (.tmp 18) (.tmp 21) 87 rfl wB.heap.size 89 ti _ 1 8 Tryz.underlying87 hi hz0 hz1 hz2 rfl (by decide) _ 0 [] rfl (World.ownsRow_nil _ _ _ _) ⟨w4.heap.size,0,none⟩ 1 1 [ptrV p4] rfl rfl (new1 w4 p4) (yT [p4]) (by simp[maxLen]) (by simp) (by have:=S4.big;simp;omega) ?_;intro v5 w5 hown5 hgrow5 hv5;have S5:=(S4.alloc (Obj.cells #[Value.pointer (some ⟨p4,0,none⟩)] 89)).grown hgrow5 (fun k hk=>(zk k hk).elim);have K5:=KidsOwn.append (C:=C) (w0:=wB) (w:=w4) (v:=(Value.slice none 0 0)) (ks:=[]) (ps:=([]:List Nat)) (qs:=[p4]) (ts:=[t4]) rfl (fun j t hj=>by simp at hj) rfl (yE (w2:=wB) hT4 (S3.setKind 3).big (fun k hk=>(zk k hk).elim)) (o:=(Obj.cells #[Value.pointer (some ⟨p4,0,none⟩)] 89)) hown5 hgrow5 hv5;clear hown5 hgrow5 hv5)|(go_at_call 82;with_reducible refine(wantnot_at C ja ⟨#[93]⟩ _ _ (by simp) S5.rd c2n).mono ?_;rintro e w6 ⟨ch,rfl,hF⟩))
      exact⟨rfl,_,rfl,hF.later S5.grew⟩
  ·rw[if_neg c1] at hr
   have d1:comesB C.l (i+1) ⟨#[91]⟩=false:=by simpa using c1
   clear c1
   by_cases c3:comesB C.l (i+1) ⟨#[58,61]⟩=true
   ·simp only[wantR,if_pos c3,andThen] at hr
    cases hxb:rd C n (.row 0) (i+1+1) with
    |none=>rw[hxb] at hr;cases hr
    |some yb=>
     rw[hxb] at hr
     have hSb:=fun W a=>HX.out (i+1+1) W yb hxb a
     clear hxb
     cases yb with
     |no p=>
      obtain rfl:Res.no p=r:=by simpa only [andThen,Option.some.injEq] using hr
      have hSb:=fun W a=>zF (hSb W a)
      clear hr HX HBL HR
      go_wp2_with (first|(go_at_call 121;with_reducible refine(named_yes C i _ S0.rd c0).mono ?_;rintro e w1 ⟨rfl,hR1,hG1⟩;have S1:=S0.call hR1 hG1)|(go_at_call 81;with_reducible refine(name_yes C i _ S1.rd c0).mono ?_;rintro e w2 ⟨rfl,hR2,hG2⟩;have S2:=S1.call hR2 hG2;have zc2:=S2.six.c1;have zf2:=S2.six.f1;have yc2:=S2.six.c2;have yf2:=S2.six.f2)|(go_at_call 79;with_reducible refine(skip_not C (i+1) ⟨#[91]⟩ _ ((S2.setKind 2).setName (textAt C.l i)).rd d1).mono ?_;rintro e w3 ⟨rfl,hR3,hG3⟩;have S3:=((S2.setKind 2).setName (textAt C.l i)).call hR3 hG3)|(go_at_call 82;with_reducible refine(want_at C (i+1) ⟨#[58,61]⟩ _ _ (by simp) S3.rd c3).mono ?_;rintro e w4 ⟨rfl,hR4,hG4⟩;have S4:=S3.call hR4 hG4)|(go_at_call 157;with_reducible refine(hSb _ S4.rd).mono ?_;rintro e w5 ⟨ch,rfl,hF⟩))
      exact⟨rfl,_,rfl,hF.later S4.grew⟩
     |ok tsb jb=>
      have hSb:=fun W a=>zy (hSb W a)
      simp only[andThen] at hr
      by_cases c5:comesB C.l jb ⟨#[59]⟩=true
      ·simp only[wantR,if_pos c5,andThen] at hr
       have HE:=Lib.hid (Option.some.inj hr)
       clear hr HX HBL HR
       go_wp2_with (first|(go_at_call 121;with_reducible refine(named_yes C i _ S0.rd c0).mono ?_;rintro e w1 ⟨rfl,hR1,hG1⟩;have S1:=S0.call hR1 hG1)|(go_at_call 81;with_reducible refine(name_yes C i _ S1.rd c0).mono ?_;rintro e w2 ⟨rfl,hR2,hG2⟩;have S2:=S1.call hR2 hG2;have zc2:=S2.six.c1;have zf2:=S2.six.f1;have yc2:=S2.six.c2;have yf2:=S2.six.f2)|(go_at_call 79;with_reducible refine(skip_not C (i+1) ⟨#[91]⟩ _ ((S2.setKind 2).setName (textAt C.l i)).rd d1).mono ?_;rintro e w3 ⟨rfl,hR3,hG3⟩;have S3:=((S2.setKind 2).setName (textAt C.l i)).call hR3 hG3)|(go_at_call 82;with_reducible refine(want_at C (i+1) ⟨#[58,61]⟩ _ _ (by simp) S3.rd c3).mono ?_;rintro e w4 ⟨rfl,hR4,hG4⟩;have S4:=S3.call hR4 hG4)|(go_at_call 157;with_reducible refine(hSb _ S4.rd).mono ?_;rintro e w5 ⟨t5,p5,ht5,rfl,hT5,hR5,hG5⟩;have S5:=S4.call hR5 hG5;subst ht5)|(at_builtin;refine zg _ rfl (.tmp 29) (.tmp 32) 87 rfl wB.heap.size 89 ti _ 1 8 Tryz.underlying87 hi hz0 hz1 hz2 rfl (by decide) _ 0 [] rfl (World.ownsRow_nil _ _ _ _) ⟨w5.heap.size,0,none⟩ 1 1 [ptrV p5] rfl rfl (new1 w5 p5) (yT [p5]) (by simp[maxLen]) (by simp) (by have:=S5.big;simp;omega) ?_;intro v6 w6 hown6 hgrow6 hv6;have S6:=(S5.alloc (Obj.cells #[Value.pointer (some ⟨p5,0,none⟩)] 89)).grown hgrow6 (fun k hk=>(zk k hk).elim);have K6:=KidsOwn.append (C:=C) (w0:=wB) (w:=w5) (v:=(Value.slice none 0 0)) (ks:=[]) (ps:=([]:List Nat)) (qs:=[p5]) (ts:=[t5]) rfl (fun j t hj=>by simp at hj) rfl (yE (w2:=wB) hT5 S4.big (fun k hk=>(zk k hk).elim)) (o:=(Obj.cells #[Value.pointer (some ⟨p5,0,none⟩)] 89)) hown6 hgrow6 hv6;clear hown6 hgrow6 hv6)|(go_at_call 82;with_reducible refine(want_at C jb ⟨#[59]⟩ _ _ (by simp) S6.rd c5).mono ?_;rintro e w7 ⟨rfl,hR7,hG7⟩;have S7:=S6.call hR7 hG7;have a07:=S7.six.c0;have a17:=S7.six.c1;have a27:=S7.six.c2;have a37:=S7.six.c3;have a47:=S7.six.c4;have a57:=S7.six.c5;have K7:=K6.grew hrB hG7;obtain⟨bb,cc,rfl,hKK⟩:=K7.kids hrB)|(go_at_call 80;with_reducible refine(leaf_any ⟨0,2,textAt C.l i,0,0,placeOf C.l C.e i⟩ _ _ _ _).mono ?_;rintro e wl ⟨rfl,rfl⟩))
       go_ret
       exact stmt_of_tree (post_node (wB:=wB) ⟨0,2,textAt C.l i,0,0,placeOf C.l C.e i⟩ HE.out.symm hKK hwb S7.rd S7.grew)
      ·have c5n:comesB C.l jb ⟨#[59]⟩=false:=by simpa using c5
       simp only[wantR,if_neg c5,andThen,Option.some.injEq] at hr
       subst hr
       clear c5 HX HBL HR
       go_wp2_with (first|(go_at_call 121;with_reducible refine(named_yes C i _ S0.rd c0).mono ?_;rintro e w1 ⟨rfl,hR1,hG1⟩;have S1:=S0.call hR1 hG1)|(go_at_call 81;with_reducible refine(name_yes C i _ S1.rd c0).mono ?_;rintro e w2 ⟨rfl,hR2,hG2⟩;have S2:=S1.call hR2 hG2;have zc2:=S2.six.c1;have zf2:=S2.six.f1;have yc2:=S2.six.c2;have yf2:=S2.six.f2)|(go_at_call 79;with_reducible refine(skip_not C (i+1) ⟨#[91]⟩ _ ((S2.setKind 2).setName (textAt C.l i)).rd d1).mono ?_;rintro e w3 ⟨rfl,hR3,hG3⟩;have S3:=((S2.setKind 2).setName (textAt C.l i)).call hR3 hG3)|(go_at_call 82;with_reducible refine(want_at C (i+1) ⟨#[58,61]⟩ _ _ (by simp) S3.rd c3).mono ?_;rintro e w4 ⟨rfl,hR4,hG4⟩;have S4:=S3.call hR4 hG4)|(go_at_call 157;with_reducible refine(hSb _ S4.rd).mono ?_;rintro e w5 ⟨t5,p5,ht5,rfl,hT5,hR5,hG5⟩;have S5:=S4.call hR5 hG5;subst ht5)|(at_builtin;refine zg _ rfl (.tmp 29) (.tmp 32) 87 rfl wB.heap.size 89 ti _ 1 8 Tryz.underlying87 hi hz0 hz1 hz2 rfl (by decide) _ 0 [] rfl (World.ownsRow_nil _ _ _ _) ⟨w5.heap.size,0,none⟩ 1 1 [ptrV p5] rfl rfl (new1 w5 p5) (yT [p5]) (by simp[maxLen]) (by simp) (by have:=S5.big;simp;omega) ?_;intro v6 w6 hown6 hgrow6 hv6;have S6:=(S5.alloc (Obj.cells #[Value.pointer (some ⟨p5,0,none⟩)] 89)).grown hgrow6 (fun k hk=>(zk k hk).elim);have K6:=KidsOwn.append (C:=C) (w0:=wB) (w:=w5) (v:=(Value.slice none 0 0)) (ks:=[]) (ps:=([]:List Nat)) (qs:=[p5]) (ts:=[t5]) rfl (fun j t hj=>by simp at hj) rfl (yE (w2:=wB) hT5 S4.big (fun k hk=>(zk k hk).elim)) (o:=(Obj.cells #[Value.pointer (some ⟨p5,0,none⟩)] 89)) hown6 hgrow6 hv6;clear hown6 hgrow6 hv6)|(go_at_call 82;with_reducible refine(wantnot_at C jb ⟨#[59]⟩ _ _ (by simp) S6.rd c5n).mono ?_;rintro e w7 ⟨ch,rfl,hF⟩))
       exact⟨rfl,_,rfl,hF.later S6.grew⟩
   ·have c3n:comesB C.l (i+1) ⟨#[58,61]⟩=false:=by simpa using c3
    simp only[wantR,if_neg c3,andThen,Option.some.injEq] at hr
    subst hr
    clear c3 HX HBL HR
    go_wp2_with (first|(go_at_call 121;with_reducible refine(named_yes C i _ S0.rd c0).mono ?_;rintro e w1 ⟨rfl,hR1,hG1⟩;have S1:=S0.call hR1 hG1)|(go_at_call 81;with_reducible refine(name_yes C i _ S1.rd c0).mono ?_;rintro e w2 ⟨rfl,hR2,hG2⟩;have S2:=S1.call hR2 hG2;have zc2:=S2.six.c1;have zf2:=S2.six.f1;have yc2:=S2.six.c2;have yf2:=S2.six.f2)|(go_at_call 79;with_reducible refine(skip_not C (i+1) ⟨#[91]⟩ _ ((S2.setKind 2).setName (textAt C.l i)).rd d1).mono ?_;rintro e w3 ⟨rfl,hR3,hG3⟩;have S3:=((S2.setKind 2).setName (textAt C.l i)).call hR3 hG3)|(go_at_call 82;with_reducible refine(wantnot_at C (i+1) ⟨#[58,61]⟩ _ _ (by simp) S3.rd c3n).mono ?_;rintro e w4 ⟨ch,rfl,hF⟩))
    exact⟨rfl,_,rfl,hF.later S3.grew⟩
 ·rw[if_neg c0] at hr
  have d0:namedB C.l i=false:=by simpa using c0
  clear c0
  by_cases e1:comesB C.l i ⟨#[105,110,112,117,116]⟩=true
  ·rw[if_pos e1] at hr
   by_cases c7:namedB C.l (i+1)=true
   ·simp only[z7,if_pos c7,andThen] at hr
    by_cases c5:comesB C.l (i+1+1) ⟨#[59]⟩=true
    ·simp only[wantR,if_pos c5,andThen] at hr
     have HE:=Lib.hid (Option.some.inj hr)
     clear hr HX HBL HR
     go_wp2_with (first|(go_at_call 121;with_reducible refine(named_not C i _ S0.rd d0).mono ?_;rintro e w1 ⟨rfl,hR1,hG1⟩;have S1:=S0.call hR1 hG1)|(go_at_call 79;with_reducible refine(skip_yes C i ⟨#[105,110,112,117,116]⟩ _ S1.rd e1).mono ?_;rintro e w2 ⟨rfl,hR2,hG2⟩;have S2:=S1.call hR2 hG2)|(go_at_call 81;with_reducible refine(name_yes C (i+1) _ S2.rd c7).mono ?_;rintro e w3 ⟨rfl,hR3,hG3⟩;have S3:=S2.call hR3 hG3;have zc3:=S3.six.c1;have zf3:=S3.six.f1;have yc3:=S3.six.c2;have yf3:=S3.six.f2)|(go_at_call 82;with_reducible refine(want_at C (i+1+1) ⟨#[59]⟩ _ _ (by simp) ((S3.setKind 4).setName (textAt C.l (i+1))).rd c5).mono ?_;rintro e w4 ⟨rfl,hR4,hG4⟩;have S4:=((S3.setKind 4).setName (textAt C.l (i+1))).call hR4 hG4;have a04:=S4.six.c0;have a14:=S4.six.c1;have a24:=S4.six.c2;have a34:=S4.six.c3;have a44:=S4.six.c4;have a54:=S4.six.c5)|(go_at_call 80;with_reducible refine(leaf_any ⟨0,4,textAt C.l (i+1),0,0,placeOf C.l C.e i⟩ _ _ _ _).mono ?_;rintro e wl ⟨rfl,rfl⟩))
     go_ret
     exact stmt_of_tree (post_node (wB:=wB) ⟨0,4,textAt C.l (i+1),0,0,placeOf C.l C.e i⟩ HE.out.symm (wK _ _ _ _) hwb S4.rd S4.grew)
    ·have c5n:comesB C.l (i+1+1) ⟨#[59]⟩=false:=by simpa using c5
     simp only[wantR,if_neg c5,andThen,Option.some.injEq] at hr
     subst hr
     clear c5 HX HBL HR
     go_wp2_with (first|(go_at_call 121;with_reducible refine(named_not C i _ S0.rd d0).mono ?_;rintro e w1 ⟨rfl,hR1,hG1⟩;have S1:=S0.call hR1 hG1)|(go_at_call 79;with_reducible refine(skip_yes C i ⟨#[105,110,112,117,116]⟩ _ S1.rd e1).mono ?_;rintro e w2 ⟨rfl,hR2,hG2⟩;have S2:=S1.call hR2 hG2)|(go_at_call 81;with_reducible refine(name_yes C (i+1) _ S2.rd c7).mono ?_;rintro e w3 ⟨rfl,hR3,hG3⟩;have S3:=S2.call hR3 hG3;have zc3:=S3.six.c1;have zf3:=S3.six.f1;have yc3:=S3.six.c2;have yf3:=S3.six.f2)|(go_at_call 82;with_reducible refine(wantnot_at C (i+1+1) ⟨#[59]⟩ _ _ (by simp) ((S3.setKind 4).setName (textAt C.l (i+1))).rd c5n).mono ?_;rintro e w4 ⟨ch,rfl,hF⟩))
     exact⟨rfl,_,rfl,hF.later ((S3.setKind 4).setName (textAt C.l (i+1))).grew⟩
   ·have c7n:namedB C.l (i+1)=false:=by simpa using c7
    simp only[z7,if_neg c7,andThen,Option.some.injEq] at hr
    subst hr
    clear c7 HX HBL HR
    go_wp2_with (first|(go_at_call 121;with_reducible refine(named_not C i _ S0.rd d0).mono ?_;rintro e w1 ⟨rfl,hR1,hG1⟩;have S1:=S0.call hR1 hG1)|(go_at_call 79;with_reducible refine(skip_yes C i ⟨#[105,110,112,117,116]⟩ _ S1.rd e1).mono ?_;rintro e w2 ⟨rfl,hR2,hG2⟩;have S2:=S1.call hR2 hG2)|(go_at_call 81;with_reducible refine(name_no C (i+1) _ S2.rd c7n).mono ?_;rintro e w3 ⟨ch,rfl,hF⟩))
    exact⟨rfl,_,rfl,hF.later S2.grew⟩
  ·rw[if_neg e1] at hr
   have d1:comesB C.l i ⟨#[105,110,112,117,116]⟩=false:=by simpa using e1
   clear e1
   by_cases e2:comesB C.l i ⟨#[97,115,115,101,114,116]⟩=true
   ·rw[if_pos e2] at hr
    cases hxa:rd C n (.row 0) (i+1) with
    |none=>rw[hxa] at hr;cases hr
    |some ya=>
     rw[hxa] at hr
     have hSa:=fun W a=>HX.out (i+1) W ya hxa a
     clear hxa
     cases ya with
     |no p=>
      obtain rfl:Res.no p=r:=by simpa only [andThen,Option.some.injEq] using hr
      have hSa:=fun W a=>zF (hSa W a)
      clear hr HX HBL HR
      go_wp2_with (first|(go_at_call 121;with_reducible refine(named_not C i _ S0.rd d0).mono ?_;rintro e w1 ⟨rfl,hR1,hG1⟩;have S1:=S0.call hR1 hG1)|(go_at_call 79;with_reducible refine(skip_not C i ⟨#[105,110,112,117,116]⟩ _ S1.rd d1).mono ?_;rintro e w2 ⟨rfl,hR2,hG2⟩;have S2:=S1.call hR2 hG2)|(go_at_call 79;with_reducible refine(skip_yes C i ⟨#[97,115,115,101,114,116]⟩ _ S2.rd e2).mono ?_;rintro e w3 ⟨rfl,hR3,hG3⟩;have S3:=S2.call hR3 hG3;have zc3:=S3.six.c1;have zf3:=S3.six.f1;have yc3:=S3.six.c2;have yf3:=S3.six.f2)|(go_at_call 157;with_reducible refine(hSa _ (S3.setKind 5).rd).mono ?_;rintro e w4 ⟨ch,rfl,hF⟩))
      exact⟨rfl,_,rfl,hF.later (S3.setKind 5).grew⟩
     |ok tsa ja=>
      have hSa:=fun W a=>zy (hSa W a)
      simp only[andThen] at hr
      by_cases c5:comesB C.l ja ⟨#[59]⟩=true
      ·simp only[wantR,if_pos c5,andThen] at hr
       have HE:=Lib.hid (Option.some.inj hr)
       clear hr HX HBL HR
       go_wp2_with (first|(go_at_call 121;with_reducible refine(named_not C i _ S0.rd d0).mono ?_;rintro e w1 ⟨rfl,hR1,hG1⟩;have S1:=S0.call hR1 hG1)|(go_at_call 79;with_reducible refine(skip_not C i ⟨#[105,110,112,117,116]⟩ _ S1.rd d1).mono ?_;rintro e w2 ⟨rfl,hR2,hG2⟩;have S2:=S1.call hR2 hG2)|(go_at_call 79;with_reducible refine(skip_yes C i ⟨#[97,115,115,101,114,116]⟩ _ S2.rd e2).mono ?_;rintro e w3 ⟨rfl,hR3,hG3⟩;have S3:=S2.call hR3 hG3;have zc3:=S3.six.c1;have zf3:=S3.six.f1;have yc3:=S3.six.c2;have yf3:=S3.six.f2)|(go_at_call 157;with_reducible refine(hSa _ (S3.setKind 5).rd).mono ?_;rintro e w4 ⟨t4,p4,ht4,rfl,hT4,hR4,hG4⟩;have S4:=(S3.setKind 5).call hR4 hG4;subst ht4)|(at_builtin;refine zg _ rfl (.tmp 51) (.tmp 54) 87 rfl wB.heap.size 89 ti _ 1 8 Tryz.underlying87 hi hz0 hz1 hz2 rfl (by decide) _ 0 [] rfl (World.ownsRow_nil _ _ _ _) ⟨w4.heap.size,0,none⟩ 1 1 [ptrV p4] rfl rfl (new1 w4 p4) (yT [p4]) (by simp[maxLen]) (by simp) (by have:=S4.big;simp;omega) ?_;intro v5 w5 hown5 hgrow5 hv5;have S5:=(S4.alloc (Obj.cells #[Value.pointer (some ⟨p4,0,none⟩)] 89)).grown hgrow5 (fun k hk=>(zk k hk).elim);have K5:=KidsOwn.append (C:=C) (w0:=wB) (w:=w4) (v:=(Value.slice none 0 0)) (ks:=[]) (ps:=([]:List Nat)) (qs:=[p4]) (ts:=[t4]) rfl (fun j t hj=>by simp at hj) rfl (yE (w2:=wB) hT4 (S3.setKind 5).big (fun k hk=>(zk k hk).elim)) (o:=(Obj.cells #[Value.pointer (some ⟨p4,0,none⟩)] 89)) hown5 hgrow5 hv5;clear hown5 hgrow5 hv5)|(go_at_call 82;with_reducible refine(want_at C ja ⟨#[59]⟩ _ _ (by simp) S5.rd c5).mono ?_;rintro e w6 ⟨rfl,hR6,hG6⟩;have S6:=S5.call hR6 hG6;have a06:=S6.six.c0;have a16:=S6.six.c1;have a26:=S6.six.c2;have a36:=S6.six.c3;have a46:=S6.six.c4;have a56:=S6.six.c5;have K6:=K5.grew hrB hG6;obtain⟨bb,cc,rfl,hKK⟩:=K6.kids hrB)|(go_at_call 80;with_reducible refine(leaf_any ⟨0,5,⟨#[]⟩,0,0,placeOf C.l C.e i⟩ _ _ _ _).mono ?_;rintro e wl ⟨rfl,rfl⟩))
       go_ret
       exact stmt_of_tree (post_node (wB:=wB) ⟨0,5,⟨#[]⟩,0,0,placeOf C.l C.e i⟩ HE.out.symm hKK hwb S6.rd S6.grew)
      ·have c5n:comesB C.l ja ⟨#[59]⟩=false:=by simpa using c5
       simp only[wantR,if_neg c5,andThen,Option.some.injEq] at hr
       subst hr
       clear c5 HX HBL HR
       go_wp2_with (first|(go_at_call 121;with_reducible refine(named_not C i _ S0.rd d0).mono ?_;rintro e w1 ⟨rfl,hR1,hG1⟩;have S1:=S0.call hR1 hG1)|(go_at_call 79;with_reducible refine(skip_not C i ⟨#[105,110,112,117,116]⟩ _ S1.rd d1).mono ?_;rintro e w2 ⟨rfl,hR2,hG2⟩;have S2:=S1.call hR2 hG2)|(go_at_call 79;with_reducible refine(skip_yes C i ⟨#[97,115,115,101,114,116]⟩ _ S2.rd e2).mono ?_;rintro e w3 ⟨rfl,hR3,hG3⟩;have S3:=S2.call hR3 hG3;have zc3:=S3.six.c1;have zf3:=S3.six.f1;have yc3:=S3.six.c2;have yf3:=S3.six.f2)|(go_at_call 157;with_reducible refine(hSa _ (S3.setKind 5).rd).mono ?_;rintro e w4 ⟨t4,p4,ht4,rfl,hT4,hR4,hG4⟩;have S4:=(S3.setKind 5).call hR4 hG4;subst ht4)|(at_builtin;refine zg _ rfl (.tmp 51) (.tmp 54) 87 rfl wB.heap.size 89 ti _ 1 8 Tryz.underlying87 hi hz0 hz1 hz2 rfl (by decide) _ 0 [] rfl (World.ownsRow_nil _ _ _ _) ⟨w4.heap.size,0,none⟩ 1 1 [ptrV p4] rfl rfl (new1 w4 p4) (yT [p4]) (by simp[maxLen]) (by simp) (by have:=S4.big;simp;omega) ?_;intro v5 w5 hown5 hgrow5 hv5;have S5:=(S4.alloc (Obj.cells #[Value.pointer (some ⟨p4,0,none⟩)] 89)).grown hgrow5 (fun k hk=>(zk k hk).elim);have K5:=KidsOwn.append (C:=C) (w0:=wB) (w:=w4) (v:=(Value.slice none 0 0)) (ks:=[]) (ps:=([]:List Nat)) (qs:=[p4]) (ts:=[t4]) rfl (fun j t hj=>by simp at hj) rfl (yE (w2:=wB) hT4 (S3.setKind 5).big (fun k hk=>(zk k hk).elim)) (o:=(Obj.cells #[Value.pointer (some ⟨p4,0,none⟩)] 89)) hown5 hgrow5 hv5;clear hown5 hgrow5 hv5)|(go_at_call 82;with_reducible refine(wantnot_at C ja ⟨#[59]⟩ _ _ (by simp) S5.rd c5n).mono ?_;rintro e w6 ⟨ch,rfl,hF⟩))
       exact⟨rfl,_,rfl,hF.later S5.grew⟩
   ·rw[if_neg e2] at hr
    have d2:comesB C.l i ⟨#[97,115,115,101,114,116]⟩=false:=by simpa using e2
    clear e2
    by_cases e3:comesB C.l i ⟨#[115,107,105,112]⟩=true
    ·rw[if_pos e3] at hr
     by_cases c5:comesB C.l (i+1) ⟨#[59]⟩=true
     ·simp only[wantR,if_pos c5,andThen] at hr
      have HE:=Lib.hid (Option.some.inj hr)
      clear hr HX HBL HR
      go_wp2_with (first|(go_at_call 121;with_reducible refine(named_not C i _ S0.rd d0).mono ?_;rintro e w1 ⟨rfl,hR1,hG1⟩;have S1:=S0.call hR1 hG1)|(go_at_call 79;with_reducible refine(skip_not C i ⟨#[105,110,112,117,116]⟩ _ S1.rd d1).mono ?_;rintro e w2 ⟨rfl,hR2,hG2⟩;have S2:=S1.call hR2 hG2)|(go_at_call 79;with_reducible refine(skip_not C i ⟨#[97,115,115,101,114,116]⟩ _ S2.rd d2).mono ?_;rintro e w3 ⟨rfl,hR3,hG3⟩;have S3:=S2.call hR3 hG3)|(go_at_call 79;with_reducible refine(skip_yes C i ⟨#[115,107,105,112]⟩ _ S3.rd e3).mono ?_;rintro e w4 ⟨rfl,hR4,hG4⟩;have S4:=S3.call hR4 hG4;have zc4:=S4.six.c1;have zf4:=S4.six.f1;have yc4:=S4.six.c2;have yf4:=S4.six.f2)|(go_at_call 82;with_reducible refine(want_at C (i+1) ⟨#[59]⟩ _ _ (by simp) (S4.setKind 6).rd c5).mono ?_;rintro e w5 ⟨rfl,hR5,hG5⟩;have S5:=(S4.setKind 6).call hR5 hG5;have a05:=S5.six.c0;have a15:=S5.six.c1;have a25:=S5.six.c2;have a35:=S5.six.c3;have a45:=S5.six.c4;have a55:=S5.six.c5)|(go_at_call 80;with_reducible refine(leaf_any ⟨0,6,⟨#[]⟩,0,0,placeOf C.l C.e i⟩ _ _ _ _).mono ?_;rintro e wl ⟨rfl,rfl⟩))
      go_ret
      exact stmt_of_tree (post_node (wB:=wB) ⟨0,6,⟨#[]⟩,0,0,placeOf C.l C.e i⟩ HE.out.symm (wK _ _ _ _) hwb S5.rd S5.grew)
     ·have c5n:comesB C.l (i+1) ⟨#[59]⟩=false:=by simpa using c5
      simp only[wantR,if_neg c5,andThen,Option.some.injEq] at hr
      subst hr
      clear c5 HX HBL HR
      go_wp2_with (first|(go_at_call 121;with_reducible refine(named_not C i _ S0.rd d0).mono ?_;rintro e w1 ⟨rfl,hR1,hG1⟩;have S1:=S0.call hR1 hG1)|(go_at_call 79;with_reducible refine(skip_not C i ⟨#[105,110,112,117,116]⟩ _ S1.rd d1).mono ?_;rintro e w2 ⟨rfl,hR2,hG2⟩;have S2:=S1.call hR2 hG2)|(go_at_call 79;with_reducible refine(skip_not C i ⟨#[97,115,115,101,114,116]⟩ _ S2.rd d2).mono ?_;rintro e w3 ⟨rfl,hR3,hG3⟩;have S3:=S2.call hR3 hG3)|(go_at_call 79;with_reducible refine(skip_yes C i ⟨#[115,107,105,112]⟩ _ S3.rd e3).mono ?_;rintro e w4 ⟨rfl,hR4,hG4⟩;have S4:=S3.call hR4 hG4;have zc4:=S4.six.c1;have zf4:=S4.six.f1;have yc4:=S4.six.c2;have yf4:=S4.six.f2)|(go_at_call 82;with_reducible refine(wantnot_at C (i+1) ⟨#[59]⟩ _ _ (by simp) (S4.setKind 6).rd c5n).mono ?_;rintro e w5 ⟨ch,rfl,hF⟩))
      exact⟨rfl,_,rfl,hF.later (S4.setKind 6).grew⟩
    ·rw[if_neg e3] at hr
     have d3:comesB C.l i ⟨#[115,107,105,112]⟩=false:=by simpa using e3
     clear e3
     by_cases e4:comesB C.l i ⟨#[105,102]⟩=true
     ·rw[if_pos e4] at hr
      cases hxa:rd C n (.row 0) (i+1) with
      |none=>rw[hxa] at hr;cases hr
      |some ya=>
       rw[hxa] at hr
       have hSa:=fun W a=>HX.out (i+1) W ya hxa a
       clear hxa
       cases ya with
       |no p=>
        obtain rfl:Res.no p=r:=by simpa only [andThen,Option.some.injEq] using hr
        have hSa:=fun W a=>zF (hSa W a)
        clear hr HX HBL HR
        go_wp2_with (first|(go_at_call 121;with_reducible refine(named_not C i _ S0.rd d0).mono ?_;rintro e w1 ⟨rfl,hR1,hG1⟩;have S1:=S0.call hR1 hG1)|(go_at_call 79;with_reducible refine(skip_not C i ⟨#[105,110,112,117,116]⟩ _ S1.rd d1).mono ?_;rintro e w2 ⟨rfl,hR2,hG2⟩;have S2:=S1.call hR2 hG2)|(go_at_call 79;with_reducible refine(skip_not C i ⟨#[97,115,115,101,114,116]⟩ _ S2.rd d2).mono ?_;rintro e w3 ⟨rfl,hR3,hG3⟩;have S3:=S2.call hR3 hG3)|(go_at_call 79;with_reducible refine(skip_not C i ⟨#[115,107,105,112]⟩ _ S3.rd d3).mono ?_;rintro e w4 ⟨rfl,hR4,hG4⟩;have S4:=S3.call hR4 hG4)|(go_at_call 79;with_reducible refine(skip_yes C i ⟨#[105,102]⟩ _ S4.rd e4).mono ?_;rintro e w5 ⟨rfl,hR5,hG5⟩;have S5:=S4.call hR5 hG5;have zc5:=S5.six.c1;have zf5:=S5.six.f1;have yc5:=S5.six.c2;have yf5:=S5.six.f2)|(go_at_call 157;with_reducible refine(hSa _ (S5.setKind 7).rd).mono ?_;rintro e w6 ⟨ch,rfl,hF⟩))
        exact⟨rfl,_,rfl,hF.later (S5.setKind 7).grew⟩
       |ok tsa ja=>
        have hSa:=fun W a=>zy (hSa W a)
        simp only[andThen] at hr
        cases hxb:rd C n .block ja with
        |none=>rw[hxb] at hr;cases hr
        |some yb=>
         rw[hxb] at hr
         have hSb:=fun W a=>HBL.out ja W yb hxb a
         clear hxb
         cases yb with
         |no p=>
          obtain rfl:Res.no p=r:=by simpa only [andThen,Option.some.injEq] using hr
          have hSb:=fun W a=>zF (hSb W a)
          clear hr HX HBL HR
          go_wp2_with (first|(go_at_call 121;with_reducible refine(named_not C i _ S0.rd d0).mono ?_;rintro e w1 ⟨rfl,hR1,hG1⟩;have S1:=S0.call hR1 hG1)|(go_at_call 79;with_reducible refine(skip_not C i ⟨#[105,110,112,117,116]⟩ _ S1.rd d1).mono ?_;rintro e w2 ⟨rfl,hR2,hG2⟩;have S2:=S1.call hR2 hG2)|(go_at_call 79;with_reducible refine(skip_not C i ⟨#[97,115,115,101,114,116]⟩ _ S2.rd d2).mono ?_;rintro e w3 ⟨rfl,hR3,hG3⟩;have S3:=S2.call hR3 hG3)|(go_at_call 79;with_reducible refine(skip_not C i ⟨#[115,107,105,112]⟩ _ S3.rd d3).mono ?_;rintro e w4 ⟨rfl,hR4,hG4⟩;have S4:=S3.call hR4 hG4)|(go_at_call 79;with_reducible refine(skip_yes C i ⟨#[105,102]⟩ _ S4.rd e4).mono ?_;rintro e w5 ⟨rfl,hR5,hG5⟩;have S5:=S4.call hR5 hG5;have zc5:=S5.six.c1;have zf5:=S5.six.f1;have yc5:=S5.six.c2;have yf5:=S5.six.f2)|(go_at_call 157;with_reducible refine(hSa _ (S5.setKind 7).rd).mono ?_;rintro e w6 ⟨t6,p6,ht6,rfl,hT6,hR6,hG6⟩;have S6:=(S5.setKind 7).call hR6 hG6;subst ht6)|(go_at_call 158;with_reducible refine(hSb _ S6.rd).mono ?_;rintro e w7 ⟨ch,rfl,hF⟩))
          exact⟨rfl,_,rfl,hF.later S6.grew⟩
         |ok tsb jb=>
          have hSb:=fun W a=>zy (hSb W a)
          simp only[andThen] at hr
          by_cases c8:comesB C.l jb ⟨#[101,108,115,101]⟩=true
          ·rw[if_pos c8] at hr
           cases hxc:rd C n .block (jb+1) with
           |none=>rw[hxc] at hr;cases hr
           |some yc=>
            rw[hxc] at hr
            have hSc:=fun W a=>HBL.out (jb+1) W yc hxc a
            clear hxc
            cases yc with
            |no p=>
             obtain rfl:Res.no p=r:=by simpa only [andThen,Option.some.injEq] using hr
             have hSc:=fun W a=>zF (hSc W a)
             clear hr HX HBL HR
             go_wp2_with (first|(go_at_call 121;with_reducible refine(named_not C i _ S0.rd d0).mono ?_;rintro e w1 ⟨rfl,hR1,hG1⟩;have S1:=S0.call hR1 hG1)|(go_at_call 79;with_reducible refine(skip_not C i ⟨#[105,110,112,117,116]⟩ _ S1.rd d1).mono ?_;rintro e w2 ⟨rfl,hR2,hG2⟩;have S2:=S1.call hR2 hG2)|(go_at_call 79;with_reducible refine(skip_not C i ⟨#[97,115,115,101,114,116]⟩ _ S2.rd d2).mono ?_;rintro e w3 ⟨rfl,hR3,hG3⟩;have S3:=S2.call hR3 hG3)|(go_at_call 79;with_reducible refine(skip_not C i ⟨#[115,107,105,112]⟩ _ S3.rd d3).mono ?_;rintro e w4 ⟨rfl,hR4,hG4⟩;have S4:=S3.call hR4 hG4)|(go_at_call 79;with_reducible refine(skip_yes C i ⟨#[105,102]⟩ _ S4.rd e4).mono ?_;rintro e w5 ⟨rfl,hR5,hG5⟩;have S5:=S4.call hR5 hG5;have zc5:=S5.six.c1;have zf5:=S5.six.f1;have yc5:=S5.six.c2;have yf5:=S5.six.f2)|(go_at_call 157;with_reducible refine(hSa _ (S5.setKind 7).rd).mono ?_;rintro e w6 ⟨t6,p6,ht6,rfl,hT6,hR6,hG6⟩;have S6:=(S5.setKind 7).call hR6 hG6;subst ht6)|(go_at_call 158;with_reducible refine(hSb _ S6.rd).mono ?_;rintro e w7 ⟨t7,p7,ht7,rfl,hT7,hR7,hG7⟩;have S7:=S6.call hR7 hG7;subst ht7)|(at_builtin;refine zg _ rfl (.tmp 70) (.tmp 75) 87 rfl wB.heap.size 89 ti _ 1 8 Tryz.underlying87 hi hz0 hz1 hz2 rfl (by decide) _ 0 [] rfl (World.ownsRow_nil _ _ _ _) ⟨w7.heap.size,0,none⟩ 2 2 [ptrV p6,ptrV p7] rfl rfl (new2 w7 p6 p7) (yT [p6,p7]) (by simp[maxLen]) (by simp) (by have:=S7.big;simp;omega) ?_;intro v8 w8 hown8 hgrow8 hv8;have S8:=(S7.alloc (Obj.cells #[Value.pointer (some ⟨p6,0,none⟩),Value.pointer (some ⟨p7,0,none⟩)] 89)).grown hgrow8 (fun k hk=>(zk k hk).elim);have K8:=KidsOwn.append (C:=C) (w0:=wB) (w:=w7) (v:=(Value.slice none 0 0)) (ks:=[]) (ps:=([]:List Nat)) (qs:=[p6,p7]) (ts:=[t6,t7]) rfl (fun j t hj=>by simp at hj) rfl (vY (hT6.grew hG7) (S5.setKind 7).big (fun k hk=>(zk k hk).elim) hT7 S6.big (fun k hk=>(zk k hk).elim)) (o:=(Obj.cells #[Value.pointer (some ⟨p6,0,none⟩),Value.pointer (some ⟨p7,0,none⟩)] 89)) hown8 hgrow8 hv8;clear hown8 hgrow8 hv8)|(go_at_call 79;with_reducible refine(skip_yes C jb ⟨#[101,108,115,101]⟩ _ S8.rd c8).mono ?_;rintro e w9 ⟨rfl,hR9,hG9⟩;have S9:=S8.call hR9 hG9;have K9:=K8.grew hrB hG9)|(go_at_call 158;with_reducible refine(hSc _ S9.rd).mono ?_;rintro e w10 ⟨ch,rfl,hF⟩))
             exact⟨rfl,_,rfl,hF.later S9.grew⟩
            |ok tsc jc=>
             have hSc:=fun W a=>zy (hSc W a)
             simp only[andThen] at hr
             have HE:=Lib.hid (Option.some.inj hr)
             clear hr HX HBL HR
             go_wp2_with (first|(go_at_call 121;with_reducible refine(named_not C i _ S0.rd d0).mono ?_;rintro e w1 ⟨rfl,hR1,hG1⟩;have S1:=S0.call hR1 hG1)|(go_at_call 79;with_reducible refine(skip_not C i ⟨#[105,110,112,117,116]⟩ _ S1.rd d1).mono ?_;rintro e w2 ⟨rfl,hR2,hG2⟩;have S2:=S1.call hR2 hG2)|(go_at_call 79;with_reducible refine(skip_not C i ⟨#[97,115,115,101,114,116]⟩ _ S2.rd d2).mono ?_;rintro e w3 ⟨rfl,hR3,hG3⟩;have S3:=S2.call hR3 hG3)|(go_at_call 79;with_reducible refine(skip_not C i ⟨#[115,107,105,112]⟩ _ S3.rd d3).mono ?_;rintro e w4 ⟨rfl,hR4,hG4⟩;have S4:=S3.call hR4 hG4)|(go_at_call 79;with_reducible refine(skip_yes C i ⟨#[105,102]⟩ _ S4.rd e4).mono ?_;rintro e w5 ⟨rfl,hR5,hG5⟩;have S5:=S4.call hR5 hG5;have zc5:=S5.six.c1;have zf5:=S5.six.f1;have yc5:=S5.six.c2;have yf5:=S5.six.f2)|(go_at_call 157;with_reducible refine(hSa _ (S5.setKind 7).rd).mono ?_;rintro e w6 ⟨t6,p6,ht6,rfl,hT6,hR6,hG6⟩;have S6:=(S5.setKind 7).call hR6 hG6;subst ht6)|(go_at_call 158;with_reducible refine(hSb _ S6.rd).mono ?_;rintro e w7 ⟨t7,p7,ht7,rfl,hT7,hR7,hG7⟩;have S7:=S6.call hR7 hG7;subst ht7)|(at_builtin;refine zg _ rfl (.tmp 70) (.tmp 75) 87 rfl wB.heap.size 89 ti _ 1 8 Tryz.underlying87 hi hz0 hz1 hz2 rfl (by decide) _ 0 [] rfl (World.ownsRow_nil _ _ _ _) ⟨w7.heap.size,0,none⟩ 2 2 [ptrV p6,ptrV p7] rfl rfl (new2 w7 p6 p7) (yT [p6,p7]) (by simp[maxLen]) (by simp) (by have:=S7.big;simp;omega) ?_;intro v8 w8 hown8 hgrow8 hv8;have S8:=(S7.alloc (Obj.cells #[Value.pointer (some ⟨p6,0,none⟩),Value.pointer (some ⟨p7,0,none⟩)] 89)).grown hgrow8 (fun k hk=>(zk k hk).elim);have K8:=KidsOwn.append (C:=C) (w0:=wB) (w:=w7) (v:=(Value.slice none 0 0)) (ks:=[]) (ps:=([]:List Nat)) (qs:=[p6,p7]) (ts:=[t6,t7]) rfl (fun j t hj=>by simp at hj) rfl (vY (hT6.grew hG7) (S5.setKind 7).big (fun k hk=>(zk k hk).elim) hT7 S6.big (fun k hk=>(zk k hk).elim)) (o:=(Obj.cells #[Value.pointer (some ⟨p6,0,none⟩),Value.pointer (some ⟨p7,0,none⟩)] 89)) hown8 hgrow8 hv8;clear hown8 hgrow8 hv8)|(go_at_call 79;with_reducible refine(skip_yes C jb ⟨#[101,108,115,101]⟩ _ S8.rd c8).mono ?_;rintro e w9 ⟨rfl,hR9,hG9⟩;have S9:=S8.call hR9 hG9;have K9:=K8.grew hrB hG9)|(go_at_call 158;with_reducible refine(hSc _ S9.rd).mono ?_;rintro e w10 ⟨t10,p10,ht10,rfl,hT10,hR10,hG10⟩;have S10:=S9.call hR10 hG10;have K10:=K9.grew hrB hG10;subst ht10)|(at_builtin;obtain⟨ps11,hl11,ho11,ht11⟩:=id K10;refine zg _ rfl (.tmp 79) (.tmp 82) 87 rfl wB.heap.size 89 ti _ 1 8 Tryz.underlying87 hi hz0 hz1 hz2 rfl (by decide) _ _ (ps11.map ptrV) rfl (ho11.alloc _) ⟨w10.heap.size,0,none⟩ 1 1 [ptrV p10] rfl rfl (new1 w10 p10) (yT [p10]) (by simp[maxLen]) (by simp) (by have:=S10.big;simp;omega) ?_;intro v11 w11 hown11 hgrow11 hv11;have S11:=(S10.alloc (Obj.cells #[Value.pointer (some ⟨p10,0,none⟩)] 89)).grown hgrow11 (fun k hk=>by have:=K10.row hrB hk;omega);have K11:=KidsOwn.append (C:=C) (w0:=wB) (w:=w10) (v:=_) (ks:=_) (ps:=ps11) (qs:=[p10]) (ts:=[t10]) hl11 ht11 rfl (yE (w2:=wB) hT10 S9.big (fun k hk=>(K9.row hrB hk).2.2)) (o:=(Obj.cells #[Value.pointer (some ⟨p10,0,none⟩)] 89)) hown11 hgrow11 hv11;clear hown11 hgrow11 hv11;have a011:=S11.six.c0;have a111:=S11.six.c1;have a211:=S11.six.c2;have a311:=S11.six.c3;have a411:=S11.six.c4;have a511:=S11.six.c5;obtain⟨bb,cc,rfl,hKK⟩:=K11.kids hrB)|(go_at_call 80;with_reducible refine(leaf_any ⟨0,7,⟨#[]⟩,0,0,placeOf C.l C.e i⟩ _ _ _ _).mono ?_;rintro e wl ⟨rfl,rfl⟩))
             go_ret
             exact stmt_of_tree (post_node (wB:=wB) ⟨0,7,⟨#[]⟩,0,0,placeOf C.l C.e i⟩ HE.out.symm hKK hwb S11.rd S11.grew)
          ·rw[if_neg c8] at hr
           have d8:comesB C.l jb ⟨#[101,108,115,101]⟩=false:=by simpa using c8
           clear c8
           have HE:=Lib.hid (Option.some.inj hr)
           clear hr HX HBL HR
           go_wp2_with (first|(go_at_call 121;with_reducible refine(named_not C i _ S0.rd d0).mono ?_;rintro e w1 ⟨rfl,hR1,hG1⟩;have S1:=S0.call hR1 hG1)|(go_at_call 79;with_reducible refine(skip_not C i ⟨#[105,110,112,117,116]⟩ _ S1.rd d1).mono ?_;rintro e w2 ⟨rfl,hR2,hG2⟩;have S2:=S1.call hR2 hG2)|(go_at_call 79;with_reducible refine(skip_not C i ⟨#[97,115,115,101,114,116]⟩ _ S2.rd d2).mono ?_;rintro e w3 ⟨rfl,hR3,hG3⟩;have S3:=S2.call hR3 hG3)|(go_at_call 79;with_reducible refine(skip_not C i ⟨#[115,107,105,112]⟩ _ S3.rd d3).mono ?_;rintro e w4 ⟨rfl,hR4,hG4⟩;have S4:=S3.call hR4 hG4)|(go_at_call 79;with_reducible refine(skip_yes C i ⟨#[105,102]⟩ _ S4.rd e4).mono ?_;rintro e w5 ⟨rfl,hR5,hG5⟩;have S5:=S4.call hR5 hG5;have zc5:=S5.six.c1;have zf5:=S5.six.f1;have yc5:=S5.six.c2;have yf5:=S5.six.f2)|(go_at_call 157;with_reducible refine(hSa _ (S5.setKind 7).rd).mono ?_;rintro e w6 ⟨t6,p6,ht6,rfl,hT6,hR6,hG6⟩;have S6:=(S5.setKind 7).call hR6 hG6;subst ht6)|(go_at_call 158;with_reducible refine(hSb _ S6.rd).mono ?_;rintro e w7 ⟨t7,p7,ht7,rfl,hT7,hR7,hG7⟩;have S7:=S6.call hR7 hG7;subst ht7)|(at_builtin;refine zg _ rfl (.tmp 70) (.tmp 75) 87 rfl wB.heap.size 89 ti _ 1 8 Tryz.underlying87 hi hz0 hz1 hz2 rfl (by decide) _ 0 [] rfl (World.ownsRow_nil _ _ _ _) ⟨w7.heap.size,0,none⟩ 2 2 [ptrV p6,ptrV p7] rfl rfl (new2 w7 p6 p7) (yT [p6,p7]) (by simp[maxLen]) (by simp) (by have:=S7.big;simp;omega) ?_;intro v8 w8 hown8 hgrow8 hv8;have S8:=(S7.alloc (Obj.cells #[Value.pointer (some ⟨p6,0,none⟩),Value.pointer (some ⟨p7,0,none⟩)] 89)).grown hgrow8 (fun k hk=>(zk k hk).elim);have K8:=KidsOwn.append (C:=C) (w0:=wB) (w:=w7) (v:=(Value.slice none 0 0)) (ks:=[]) (ps:=([]:List Nat)) (qs:=[p6,p7]) (ts:=[t6,t7]) rfl (fun j t hj=>by simp at hj) rfl (vY (hT6.grew hG7) (S5.setKind 7).big (fun k hk=>(zk k hk).elim) hT7 S6.big (fun k hk=>(zk k hk).elim)) (o:=(Obj.cells #[Value.pointer (some ⟨p6,0,none⟩),Value.pointer (some ⟨p7,0,none⟩)] 89)) hown8 hgrow8 hv8;clear hown8 hgrow8 hv8)|(go_at_call 79;with_reducible refine(skip_not C jb ⟨#[101,108,115,101]⟩ _ S8.rd d8).mono ?_;rintro e w9 ⟨rfl,hR9,hG9⟩;have S9:=S8.call hR9 hG9;have a09:=S9.six.c0;have a19:=S9.six.c1;have a29:=S9.six.c2;have a39:=S9.six.c3;have a49:=S9.six.c4;have a59:=S9.six.c5;have K9:=K8.grew hrB hG9;obtain⟨bb,cc,rfl,hKK⟩:=K9.kids hrB)|(go_at_call 80;with_reducible refine(leaf_any ⟨0,7,⟨#[]⟩,0,0,placeOf C.l C.e i⟩ _ _ _ _).mono ?_;rintro e wl ⟨rfl,rfl⟩))
           go_ret
           exact stmt_of_tree (post_node (wB:=wB) ⟨0,7,⟨#[]⟩,0,0,placeOf C.l C.e i⟩ HE.out.symm hKK hwb S9.rd S9.grew)
     ·rw[if_neg e4] at hr
      have d4:comesB C.l i ⟨#[105,102]⟩=false:=by simpa using e4
      clear e4
      by_cases e5:comesB C.l i ⟨#[119,104,105,108,101]⟩=true
      ·rw[if_pos e5] at hr
       cases hxa:rd C n (.row 0) (i+1) with
       |none=>rw[hxa] at hr;cases hr
       |some ya=>
        rw[hxa] at hr
        have hSa:=fun W a=>HX.out (i+1) W ya hxa a
        clear hxa
        cases ya with
        |no p=>
         obtain rfl:Res.no p=r:=by simpa only [andThen,Option.some.injEq] using hr
         have hSa:=fun W a=>zF (hSa W a)
         clear hr HX HBL HR
         go_wp2_with (first|(go_at_call 121;with_reducible refine(named_not C i _ S0.rd d0).mono ?_;rintro e w1 ⟨rfl,hR1,hG1⟩;have S1:=S0.call hR1 hG1)|(go_at_call 79;with_reducible refine(skip_not C i ⟨#[105,110,112,117,116]⟩ _ S1.rd d1).mono ?_;rintro e w2 ⟨rfl,hR2,hG2⟩;have S2:=S1.call hR2 hG2)|(go_at_call 79;with_reducible refine(skip_not C i ⟨#[97,115,115,101,114,116]⟩ _ S2.rd d2).mono ?_;rintro e w3 ⟨rfl,hR3,hG3⟩;have S3:=S2.call hR3 hG3)|(go_at_call 79;with_reducible refine(skip_not C i ⟨#[115,107,105,112]⟩ _ S3.rd d3).mono ?_;rintro e w4 ⟨rfl,hR4,hG4⟩;have S4:=S3.call hR4 hG4)|(go_at_call 79;with_reducible refine(skip_not C i ⟨#[105,102]⟩ _ S4.rd d4).mono ?_;rintro e w5 ⟨rfl,hR5,hG5⟩;have S5:=S4.call hR5 hG5)|(go_at_call 79;with_reducible refine(skip_yes C i ⟨#[119,104,105,108,101]⟩ _ S5.rd e5).mono ?_;rintro e w6 ⟨rfl,hR6,hG6⟩;have S6:=S5.call hR6 hG6;have zc6:=S6.six.c1;have zf6:=S6.six.f1;have yc6:=S6.six.c2;have yf6:=S6.six.f2)|(go_at_call 157;with_reducible refine(hSa _ (S6.setKind 8).rd).mono ?_;rintro e w7 ⟨ch,rfl,hF⟩))
         exact⟨rfl,_,rfl,hF.later (S6.setKind 8).grew⟩
        |ok tsa ja=>
         have hSa:=fun W a=>zy (hSa W a)
         simp only[andThen] at hr
         cases hxb:rd C n .block ja with
         |none=>rw[hxb] at hr;cases hr
         |some yb=>
          rw[hxb] at hr
          have hSb:=fun W a=>HBL.out ja W yb hxb a
          clear hxb
          cases yb with
          |no p=>
           obtain rfl:Res.no p=r:=by simpa only [andThen,Option.some.injEq] using hr
           have hSb:=fun W a=>zF (hSb W a)
           clear hr HX HBL HR
           go_wp2_with (first|(go_at_call 121;with_reducible refine(named_not C i _ S0.rd d0).mono ?_;rintro e w1 ⟨rfl,hR1,hG1⟩;have S1:=S0.call hR1 hG1)|(go_at_call 79;with_reducible refine(skip_not C i ⟨#[105,110,112,117,116]⟩ _ S1.rd d1).mono ?_;rintro e w2 ⟨rfl,hR2,hG2⟩;have S2:=S1.call hR2 hG2)|(go_at_call 79;with_reducible refine(skip_not C i ⟨#[97,115,115,101,114,116]⟩ _ S2.rd d2).mono ?_;rintro e w3 ⟨rfl,hR3,hG3⟩;have S3:=S2.call hR3 hG3)|(go_at_call 79;with_reducible refine(skip_not C i ⟨#[115,107,105,112]⟩ _ S3.rd d3).mono ?_;rintro e w4 ⟨rfl,hR4,hG4⟩;have S4:=S3.call hR4 hG4)|(go_at_call 79;with_reducible refine(skip_not C i ⟨#[105,102]⟩ _ S4.rd d4).mono ?_;rintro e w5 ⟨rfl,hR5,hG5⟩;have S5:=S4.call hR5 hG5)|(go_at_call 79;with_reducible refine(skip_yes C i ⟨#[119,104,105,108,101]⟩ _ S5.rd e5).mono ?_;rintro e w6 ⟨rfl,hR6,hG6⟩;have S6:=S5.call hR6 hG6;have zc6:=S6.six.c1;have zf6:=S6.six.f1;have yc6:=S6.six.c2;have yf6:=S6.six.f2)|(go_at_call 157;with_reducible refine(hSa _ (S6.setKind 8).rd).mono ?_;rintro e w7 ⟨t7,p7,ht7,rfl,hT7,hR7,hG7⟩;have S7:=(S6.setKind 8).call hR7 hG7;subst ht7)|(go_at_call 158;with_reducible refine(hSb _ S7.rd).mono ?_;rintro e w8 ⟨ch,rfl,hF⟩))
           exact⟨rfl,_,rfl,hF.later S7.grew⟩
          |ok tsb jb=>
           have hSb:=fun W a=>zy (hSb W a)
           simp only[andThen] at hr
           have HE:=Lib.hid (Option.some.inj hr)
           clear hr HX HBL HR
           go_wp2_with (first|(go_at_call 121;with_reducible refine(named_not C i _ S0.rd d0).mono ?_;rintro e w1 ⟨rfl,hR1,hG1⟩;have S1:=S0.call hR1 hG1)|(go_at_call 79;with_reducible refine(skip_not C i ⟨#[105,110,112,117,116]⟩ _ S1.rd d1).mono ?_;rintro e w2 ⟨rfl,hR2,hG2⟩;have S2:=S1.call hR2 hG2)|(go_at_call 79;with_reducible refine(skip_not C i ⟨#[97,115,115,101,114,116]⟩ _ S2.rd d2).mono ?_;rintro e w3 ⟨rfl,hR3,hG3⟩;have S3:=S2.call hR3 hG3)|(go_at_call 79;with_reducible refine(skip_not C i ⟨#[115,107,105,112]⟩ _ S3.rd d3).mono ?_;rintro e w4 ⟨rfl,hR4,hG4⟩;have S4:=S3.call hR4 hG4)|(go_at_call 79;with_reducible refine(skip_not C i ⟨#[105,102]⟩ _ S4.rd d4).mono ?_;rintro e w5 ⟨rfl,hR5,hG5⟩;have S5:=S4.call hR5 hG5)|(go_at_call 79;with_reducible refine(skip_yes C i ⟨#[119,104,105,108,101]⟩ _ S5.rd e5).mono ?_;rintro e w6 ⟨rfl,hR6,hG6⟩;have S6:=S5.call hR6 hG6;have zc6:=S6.six.c1;have zf6:=S6.six.f1;have yc6:=S6.six.c2;have yf6:=S6.six.f2)|(go_at_call 157;with_reducible refine(hSa _ (S6.setKind 8).rd).mono ?_;rintro e w7 ⟨t7,p7,ht7,rfl,hT7,hR7,hG7⟩;have S7:=(S6.setKind 8).call hR7 hG7;subst ht7)|(go_at_call 158;with_reducible refine(hSb _ S7.rd).mono ?_;rintro e w8 ⟨t8,p8,ht8,rfl,hT8,hR8,hG8⟩;have S8:=S7.call hR8 hG8;subst ht8)|(at_builtin;refine zg _ rfl (.tmp 88) (.tmp 93) 87 rfl wB.heap.size 89 ti _ 1 8 Tryz.underlying87 hi hz0 hz1 hz2 rfl (by decide) _ 0 [] rfl (World.ownsRow_nil _ _ _ _) ⟨w8.heap.size,0,none⟩ 2 2 [ptrV p7,ptrV p8] rfl rfl (new2 w8 p7 p8) (yT [p7,p8]) (by simp[maxLen]) (by simp) (by have:=S8.big;simp;omega) ?_;intro v9 w9 hown9 hgrow9 hv9;have S9:=(S8.alloc (Obj.cells #[Value.pointer (some ⟨p7,0,none⟩),Value.pointer (some ⟨p8,0,none⟩)] 89)).grown hgrow9 (fun k hk=>(zk k hk).elim);have K9:=KidsOwn.append (C:=C) (w0:=wB) (w:=w8) (v:=(Value.slice none 0 0)) (ks:=[]) (ps:=([]:List Nat)) (qs:=[p7,p8]) (ts:=[t7,t8]) rfl (fun j t hj=>by simp at hj) rfl (vY (hT7.grew hG8) (S6.setKind 8).big (fun k hk=>(zk k hk).elim) hT8 S7.big (fun k hk=>(zk k hk).elim)) (o:=(Obj.cells #[Value.pointer (some ⟨p7,0,none⟩),Value.pointer (some ⟨p8,0,none⟩)] 89)) hown9 hgrow9 hv9;clear hown9 hgrow9 hv9;have a09:=S9.six.c0;have a19:=S9.six.c1;have a29:=S9.six.c2;have a39:=S9.six.c3;have a49:=S9.six.c4;have a59:=S9.six.c5;obtain⟨bb,cc,rfl,hKK⟩:=K9.kids hrB)|(go_at_call 80;with_reducible refine(leaf_any ⟨0,8,⟨#[]⟩,0,0,placeOf C.l C.e i⟩ _ _ _ _).mono ?_;rintro e wl ⟨rfl,rfl⟩))
           go_ret
           exact stmt_of_tree (post_node (wB:=wB) ⟨0,8,⟨#[]⟩,0,0,placeOf C.l C.e i⟩ HE.out.symm hKK hwb S9.rd S9.grew)
      ·rw[if_neg e5] at hr
       have d5:comesB C.l i ⟨#[119,104,105,108,101]⟩=false:=by simpa using e5
       clear e5
       have HE:=Lib.hid (Option.some.inj hr)
       clear hr HX HBL HR
       go_wp2_with (first|(go_at_call 121;with_reducible refine(named_not C i _ S0.rd d0).mono ?_;rintro e w1 ⟨rfl,hR1,hG1⟩;have S1:=S0.call hR1 hG1)|(go_at_call 79;with_reducible refine(skip_not C i ⟨#[105,110,112,117,116]⟩ _ S1.rd d1).mono ?_;rintro e w2 ⟨rfl,hR2,hG2⟩;have S2:=S1.call hR2 hG2)|(go_at_call 79;with_reducible refine(skip_not C i ⟨#[97,115,115,101,114,116]⟩ _ S2.rd d2).mono ?_;rintro e w3 ⟨rfl,hR3,hG3⟩;have S3:=S2.call hR3 hG3)|(go_at_call 79;with_reducible refine(skip_not C i ⟨#[115,107,105,112]⟩ _ S3.rd d3).mono ?_;rintro e w4 ⟨rfl,hR4,hG4⟩;have S4:=S3.call hR4 hG4)|(go_at_call 79;with_reducible refine(skip_not C i ⟨#[105,102]⟩ _ S4.rd d4).mono ?_;rintro e w5 ⟨rfl,hR5,hG5⟩;have S5:=S4.call hR5 hG5)|(go_at_call 79;with_reducible refine(skip_not C i ⟨#[119,104,105,108,101]⟩ _ S5.rd d5).mono ?_;rintro e w6 ⟨rfl,hR6,hG6⟩;have S6:=S5.call hR6 hG6))
       go_ret
       exact⟨[],i,HE.out.symm, .inl ⟨rfl,rfl⟩,S6.rd,S6.grew⟩
def za8(C:Ctx)(w0:World):List Tr->Value->World->Prop:=fun ts v w'=>KidsOwn C w0 w' v ts
def zbB(C:Ctx)(f:Nat):Prop:=∀i w r,rd C f .stmts i=some r->Rd C i w->Calls Tryz.prog 84 #[.pointer (some ⟨C.r,0,none⟩)] w (zH C w r (za8 C w))
def prep(ks:List Tr):Res (List Tr)->Res (List Tr)
 | .ok us j=> .ok (ks++us) j
 | .no p=> .no p
theorem zck{C:Ctx}{F:FuncId}{a:Array Value}{w:World}{j:Nat}(h:Calls Tryz.prog F a w (zH C w (.ok [] j) (wL C w))):Calls Tryz.prog F a w fun e w'=>e= .returned (.pointer none)/\Rd C j w'/\Grew C w w':=by
 refine h.mono fun e w' he=>?_
 cases e with
 |returned v=>
  obtain⟨_,_,h,h1,h3,h4⟩:=he
  cases h
  rcases h1 with⟨_,rfl⟩|⟨t,p,h1,_⟩
  ·exact⟨rfl,h3,h4⟩
  ·cases h1
 |panicked ch=>obtain⟨q,h,hF⟩:=he;cases h
 |outgrown=>exact he.elim
theorem zcj{C:Ctx}{F:FuncId}{a:Array Value}{w:World}{j:Nat}{t:Tr}{l:List Tr}(h:Calls Tryz.prog F a w (zH C w (.ok (t::l) j) (wL C w))):Calls Tryz.prog F a w fun e w'=>∃p,l=[]/\e= .returned (.pointer (some ⟨p,0,none⟩))/\TrAt (Old C w) w' p t/\Rd C j w'/\Grew C w w':=by
 refine h.mono fun e w' he=>?_
 cases e with
 |returned v=>
  obtain⟨_,_,h,h1,h3,h4⟩:=he
  cases h
  rcases h1 with⟨h1,_⟩|⟨u,p,h1,rfl,hT⟩
  ·cases h1
  ·cases h1;exact⟨p,rfl,rfl,hT,h3,h4⟩
 |panicked ch=>obtain⟨q,h,hF⟩:=he;cases h
 |outgrown=>exact he.elim
theorem vd{C:Ctx}{F:FuncId}{a:Array Value}{w:World}{ts:List Tr}{j:Nat}(h:Calls Tryz.prog F a w (zH C w (.ok ts j) (za8 C w))):Calls Tryz.prog F a w fun e w'=>∃v,e= .returned v/\KidsOwn C w w' v ts/\Rd C j w'/\Grew C w w':=by
 refine h.mono fun e w' he=>?_
 cases e with
 |returned v=>obtain⟨_,_,h,h1,h3,h4⟩:=he;cases h;exact⟨v,rfl,h1,h3,h4⟩
 |panicked ch=>obtain⟨q,h,hF⟩:=he;cases h
 |outgrown=>exact he.elim
def Up{α:Type}(i:Nat)(x:Option (Res α)):Prop:=∀a j,x=some (.ok a j)->i<=j
theorem up_then{α β:Type}{i:Nat}{x:Option (Res α)}{F:α->Nat->Option (Res β)}(h:Up i x)(k:∀a j,i<=j->Up i (F a j)):Up i (andThen x F):=by
 intro b j hb
 cases x with
 |none=>cases hb
 |some y=>cases y with
  |no p=>simp[andThen] at hb
  |ok a j'=>exact k a j' (h a j' rfl) b j hb
theorem up_ok{α:Type}{i k:Nat}{a:α}(h:i<=k):Up i (some (.ok a k)):=fun b j hb=>by cases hb;exact h
theorem up_no{α:Type}{i:Nat}{p:Int}:Up (α:=α) i (some (.no p)):=fun b j hb=>by cases hb
theorem up_none{α:Type}{i:Nat}:Up (α:=α) i none:=fun b j hb=>by cases hb
theorem up_want{C:Ctx}{s:ByteArray}{i k:Nat}(h:i<=k):Up i (wantR C s k):=by
 unfold wantR;split
 ·exact up_ok (by omega)
 ·exact up_no
theorem up_name{C:Ctx}{i k:Nat}(h:i<=k):Up i (z7 C k):=by
 unfold z7;split
 ·exact up_ok (by omega)
 ·exact up_no
theorem up_number{C:Ctx}{i k:Nat}(h:i<=k):Up i (zL C k):=by
 unfold zL;split
 ·exact up_ok (by omega)
 ·exact up_no
theorem up_rd(C:Ctx):∀(f:Nat) (nt:NT) (i k:Nat),i<=k->Up i (rd C f nt k):=by
 intro f
 induction f with
 |zero=>intro nt i k h;exact up_none
 |succ f ih=>
  intro nt i k h
  cases nt<;>simp only[rd]<;>
   repeat' first
    |exact up_ok (by omega)
    |exact up_no
    |exact up_none
    |exact up_want (by omega)
    |exact up_name (by omega)
    |exact up_number (by omega)
    |exact ih _ _ _ (by omega)
    |(refine up_then ?_ fun a j hj=>?_)
    |split
theorem gn{C:Ctx}{f i j:Nat}{t:Tr}{l:List Tr}(h:rd C f .stmt i=some (.ok (t::l) j)):i<j:=by
 cases f with
 |zero=>cases h
 |succ f=>
  have key:rd C (f+1) .stmt i=some (.ok [] i)\/Up (i+1) (rd C (f+1) .stmt i):=by
   have ih:=fun nt i k=>up_rd C f nt i k
   simp only[rd]
   repeat' first
    |exact .inl rfl
    |(refine .inr (up_then ?_ fun a j hj=>?_))
    |exact up_ok (by omega)
    |exact up_no
    |exact up_none
    |exact up_want (by omega)
    |exact up_name (by omega)
    |exact up_number (by omega)
    |exact ih _ _ _ (by omega)
    |(refine up_then ?_ fun a j hj=>?_)
    |split
  rcases key with h2|h2
  ·rw[h] at h2;cases h2
  ·exact h2 _ _ h
theorem stmts_step(C:Ctx)(n:Nat)(ih:∀f,f<=n->zen C f):zbB C (n+1):=by
 intro i w r hr h
 have H0:=Lib.hid h
 have HI:=Lib.hid ih
 have HR:=Lib.hid hr
 have hlt:=h.lt
 obtain⟨ti,hi,hz0,hz1,hz2⟩:=info_parts vK
 clear ih hr h
 go_enter Tryz.func84,Tryz.ntmps84
 go_wp2
 go_loopg [3] (n+1) (fun g x wr=>∃ks j rr,KidsOwn C w wr x ks/\Rd C j wr/\Grew C w wr/\g<=n+1/\ks.length<=j/\rd C g .stmts j=some rr/\r=prep ks rr)
 case atStart=>exact⟨[],i,r,uw C w w,H0.out,World.grownBy.refl _ _,Nat.le_refl _,Nat.zero_le _,HR.out,by cases r<;>rfl⟩
 case round=>
  obtain⟨ks,j,rr,hK,hR,hG,hg,hlen,hr,hrr⟩:=hrel
  cases gk with
  |zero=>cases hr
  |succ g=>
   simp only[rd] at hr
   cases hx:rd C g .stmt j with
   |none=>rw[hx] at hr;cases hr
   |some y=>
    rw[hx] at hr
    have hS:=HI.out g (by omega) j wr y hx hR
    have HK:=Lib.hid hK
    have HRd:=Lib.hid hR
    have HG:=Lib.hid hG
    have HRR:=Lib.hid hrr
    have hjl:=hR.le
    have hll:=hR.len
    have HX2:=Lib.hid hx
    clear hK hR hG hrr hx
    cases y with
    |no p=>
     simp only[andThen,Option.some.injEq] at hr
     have hp:r= .no p:=by rw[HRR.out,<-hr];rfl
     subst hp
     have hS:=zF hS
     clear hr HRR
     go_wp2_with (go_at_call 122;with_reducible refine(hS).mono ?_;rintro e w' ⟨ch,rfl,hF⟩)
     exact⟨rfl,_,rfl,hF.later HG.out⟩
    |ok ts j2=>
     cases ts with
     |nil=>
      simp only[andThen,List.isEmpty_nil,if_true,Option.some.injEq] at hr
      have hp:r= .ok ks j2:=by rw[HRR.out,<-hr];simp[prep]
      subst hp
      have hS:=zck hS
      clear hr HRR
      go_wp2_with (go_at_call 122;with_reducible refine(hS).mono ?_;rintro e w' ⟨rfl,hR2,hG2⟩)
      go_ret
      exact⟨ks,j2,rfl,HK.out.grew hlt hG2,hR2,grown_trans HG.out hG2⟩
     |cons t l=>
      have hS:=zcj hS
      have HE:=Lib.hid hr
      clear hr
      have hjj:j<j2:=gn HX2.out
      go_wp2_with (first|(go_at_call 122;with_reducible refine(hS).mono ?_;rintro e w2 ⟨p,hl,rfl,hT2,hR2,hG2⟩)|(at_builtin;have K2:=HK.out.grew hlt hG2;obtain⟨ps,hps,hown,htr⟩:=id K2;refine zg _ rfl (.tmp 10) (.tmp 12) 87 rfl w.heap.size 89 ti _ 1 8 Tryz.underlying87 hi hz0 hz1 hz2 rfl (by decide) _ _ (ps.map ptrV) rfl (hown.alloc _) ⟨w2.heap.size,0,none⟩ 1 1 [ptrV p] rfl rfl (new1 w2 p) (yT [p]) (by simp[maxLen];omega) (by omega) (by have:=HG.out.size;have:=hG2.size;simp;omega) ?_;intro v3 w3 hown3 hgrow3 hv3))
      subst hl
      have hsz:w.heap.size<=wr.heap.size:=HG.out.size
      have K3:KidsOwn C w w3 v3 (ks++[t]):=KidsOwn.append (ts:=[t]) (qs:=[p]) hps htr rfl (yE (w2:=w) hT2 hsz (fun k hk=>(HK.out.row hlt hk).2.2)) hown3 hgrow3 hv3
      have hrow:∀k,u3.ownBlock=some k->w.heap.size<=k:=fun k hk=>(K2.row hlt hk).1
      have hR3:=H0.out.row (hR2.alloc (Obj.cells #[Value.pointer (some ⟨p,0,none⟩)] 89)) hgrow3 hrow
      have hG3:=qC (grown_trans (grown_trans HG.out hG2) (World.grownBy_alloc w2 (Obj.cells #[Value.pointer (some ⟨p,0,none⟩)] 89) (some C.r))) hgrow3 hrow
      have hr:=HE.out
      simp only[andThen,List.isEmpty_cons] at hr
      have K3:=Lib.hid K3
      have hR3:=Lib.hid hR3
      have hG3:=Lib.hid hG3
      clear hown hown3 hgrow3 hv3 htr hps K2 hT2 hR2 hG2 hrow
      cases hy:rd C g .stmts j2 with
      |none=>rw[hy] at hr;simp[andThen] at hr
      |some y2=>
       rw[hy] at hr
       have HY:=Lib.hid hy
       have HRY:Hid (rr=prep [t] y2):=by
        show rr=prep [t] y2
        cases y2<;>simp[andThen,prep] at hr⊢ <;>exact hr.symm
       clear hr hy
       go_wp2
       go_roundg g
       case measure=>omega
       case rel=>
        refine⟨ks++[t],j2,y2,K3.out,hR3.out,hG3.out,by omega,by simp;omega,HY.out,?_⟩
        rw[HRR.out,HRY.out]
        cases y2<;>simp[prep]
theorem block_step(C:Ctx)(n:Nat)(hS:zbB C n):zbC C (n+1):=by
 intro i w r hr h
 have hat:=yD C i w h
 simp only[rd] at hr
 have HR:=Lib.hid hr
 have HSS:=Lib.hid hS
 have hlt:=h.lt
 have H0:=Lib.hid h
 clear hr hS h
 go_enter Tryz.func158,Tryz.ntmps158
 go_upto_region 2 with(go_at_call 78;refine(hat).mono ?_;rintro e w1 ⟨rfl,hR1,hG1⟩)
 have S0:StI C w i w1.heap.size (w1.heap.size+1) 9 ⟨#[]⟩ 0 (placeOf C.l C.e i) i (w1.alloc (Obj.cells #[Value.int IntKind.i64 0,Value.int IntKind.i64 9,Value.string {data:= #[]},Value.int IntKind.i64 0,Value.int IntKind.i64 0,Value.int IntKind.i64 (placeOf C.l C.e i)] 50)):=
  ⟨H0.out,hR1.alloc _,grown_trans hG1 (World.grownBy_alloc _ _ _),xy _ _ _ _ _ _ _ _,hG1.size,by simp,by simp⟩
 have hwb:w.heap.size<=(w1.alloc (Obj.cells #[Value.int IntKind.i64 0,Value.int IntKind.i64 9,Value.string {data:= #[]},Value.int IntKind.i64 0,Value.int IntKind.i64 0,Value.int IntKind.i64 (placeOf C.l C.e i)] 50)).heap.size:=by have:=hG1.size;simp;omega
 generalize (w1.alloc (Obj.cells #[Value.int IntKind.i64 0,Value.int IntKind.i64 9,Value.string {data:= #[]},Value.int IntKind.i64 0,Value.int IntKind.i64 0,Value.int IntKind.i64 (placeOf C.l C.e i)] 50))=wB at S0 hwb⊢
 generalize w1.heap.size=N at S0⊢
 clear hR1 hG1 hat
 have hr:=HR.out
 by_cases c1:comesB C.l i ⟨#[123]⟩=true
 ·simp only[wantR,if_pos c1,andThen] at hr
  cases hx:rd C n .stmts (i+1) with
  |none=>rw[hx] at hr;cases hr
  |some y=>
   rw[hx] at hr
   have hS:=fun W a=>HSS.out (i+1) W y hx a
   clear hx
   cases y with
   |no p=>
    obtain rfl:Res.no p=r:=by simpa only [andThen,Option.some.injEq] using hr
    have hS:=fun W a=>zF (hS W a)
    clear hr HR HSS
    go_wp2_with (first|(go_at_call 82;with_reducible refine(want_at C i ⟨#[123]⟩ _ _ (by simp) S0.rd c1).mono ?_;rintro e w2 ⟨rfl,hR2,hG2⟩;have S2:=S0.call hR2 hG2)|(go_at_call 84;with_reducible refine(hS _ S2.rd).mono ?_;rintro e w3 ⟨ch,rfl,hF⟩))
    exact⟨rfl,_,rfl,hF.later S2.grew⟩
   |ok ts j=>
    have hS:=fun W a=>vd (hS W a)
    simp only[andThen] at hr
    by_cases c2:comesB C.l j ⟨#[125]⟩=true
    ·simp only[wantR,if_pos c2,andThen] at hr
     have HE:=Lib.hid (Option.some.inj hr)
     clear hr HR HSS
     go_wp2_with (first|(go_at_call 82;with_reducible refine(want_at C i ⟨#[123]⟩ _ _ (by simp) S0.rd c1).mono ?_;rintro e w2 ⟨rfl,hR2,hG2⟩;have S2:=S0.call hR2 hG2)|(go_at_call 84;with_reducible refine(hS _ S2.rd).mono ?_;rintro e w3 ⟨v3,rfl,K3,hR3,hG3⟩;have S3:=S2.call hR3 hG3)|(go_at_call 82;with_reducible refine(want_at C j ⟨#[125]⟩ _ _ (by simp) S3.rd c2).mono ?_;rintro e w4 ⟨rfl,hR4,hG4⟩;have S4:=S3.call hR4 hG4;have K4:=K3.grew S2.rd.lt hG4;have a0:=S4.six.c0;have a1:=S4.six.c1;have a2:=S4.six.c2;have a3:=S4.six.c3;have a4:=S4.six.c4;have a5:=S4.six.c5;obtain⟨bb,cc,rfl,hKK⟩:=K4.kids S2.rd.lt)|(go_at_call 80;with_reducible refine(leaf_any ⟨0,9,⟨#[]⟩,0,0,placeOf C.l C.e i⟩ _ _ _ _).mono ?_;rintro e wl ⟨rfl,rfl⟩))
     go_ret
     exact post_node (wB:=w2) ⟨0,9,⟨#[]⟩,0,0,placeOf C.l C.e i⟩ HE.out.symm hKK S2.grew.size S4.rd S4.grew
    ·have c2n:comesB C.l j ⟨#[125]⟩=false:=by simpa using c2
     simp only[wantR,if_neg c2,andThen,Option.some.injEq] at hr
     subst hr
     clear c2 HR HSS
     go_wp2_with (first|(go_at_call 82;with_reducible refine(want_at C i ⟨#[123]⟩ _ _ (by simp) S0.rd c1).mono ?_;rintro e w2 ⟨rfl,hR2,hG2⟩;have S2:=S0.call hR2 hG2)|(go_at_call 84;with_reducible refine(hS _ S2.rd).mono ?_;rintro e w3 ⟨v3,rfl,K3,hR3,hG3⟩;have S3:=S2.call hR3 hG3)|(go_at_call 82;with_reducible refine(wantnot_at C j ⟨#[125]⟩ _ _ (by simp) S3.rd c2n).mono ?_;rintro e w4 ⟨ch,rfl,hF⟩))
     exact⟨rfl,_,rfl,hF.later S3.grew⟩
 ·have c1n:comesB C.l i ⟨#[123]⟩=false:=by simpa using c1
  simp only[wantR,if_neg c1,andThen,Option.some.injEq] at hr
  subst hr
  clear c1 HR HSS
  go_wp2_with (go_at_call 82;with_reducible refine(wantnot_at C i ⟨#[123]⟩ _ _ (by simp) S0.rd c1n).mono ?_;rintro e w2 ⟨ch,rfl,hF⟩)
  exact⟨rfl,_,rfl,hF.later S0.grew⟩
theorem stmts_all(C:Ctx):∀f,zbC C f/\zen C f/\zbB C f:=by
 intro f
 induction f using Nat.strongRecOn with
 |_ f ih=>
  cases f with
  |zero=>refine⟨?_,?_,?_⟩<;>(intro i w r hr _;cases hr)
  |succ n=>exact⟨block_step C n (ih n (by omega)).2.2,stmt_step C n (ih n (by omega)).1,stmts_step C n fun f hf=>(ih f (by omega)).2.1⟩
end Go.Proofs.YtonmcakdofbjiaaGreatDoor
