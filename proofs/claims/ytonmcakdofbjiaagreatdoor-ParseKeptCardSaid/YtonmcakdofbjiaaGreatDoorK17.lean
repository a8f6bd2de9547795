/- A part. -/
import Derived.Test.YtonmcakdofbjiaaGreatDoorK16
import Derived.ArgAppend
set_option linter.all false
set_option maxRecDepth 100000
set_option maxHeartbeats 8000000
namespace Go.Proofs.YtonmcakdofbjiaaGreatDoor
open Go.RowKit
theorem zeA(C:Ctx)(n:Nat)(ih:∀f,f<=n->Exprs C f)(i:Nat)(w:World)(r:Res (List Tr))(hr:rd C (n+1) (.row 0) i=some r)(h:Rd C i w):Calls Tryz.prog 157 #[.pointer (some ⟨C.r,0,none⟩)] w (zG C w r (isTree C w)):=by
 have hrow:∀(m:Nat) (W:World),Grew C (w.alloc (.cells #[.pointer (some ⟨C.r,0,none⟩)] 84)) W->W.heap[m]? =some (.map (jn 0) 1)->m≠C.r->Rd C i W->Calls Tryz.prog 168 #[.pointer (some ⟨C.r,0,none⟩), .func (.func 169) #[] #[.pointer (some ⟨w.heap.size,0,none⟩)], .bool false, .map (some m)] W (zG C W r (isTree C W)):=fun m W hg hm hmr hR=>
  kL C 0 n n 169 #[] #[.pointer (some ⟨w.heap.size,0,none⟩)] m 1 (Box C w.heap.size) cf169 (fun w w' h hg=>Box.grew w w' h hg) (fun f' hf' i w r hr hR hB=>(ih f' hf').r1 i w r _ hr hR hB) (Nat.le_refl _) i W r (by have h1:=hr;simp only[rd,show ¬5<=0 from by omega,if_false] at h1;exact h1) hR (Box.grew _ _ ⟨by simp[go_sem],by have:=h.lt;omega⟩ hg) hm hmr _ (by decide)
 have hmk:=xD 0
 have hheap:=Lib.hid (show ∀(o o':Obj),((w.alloc o).alloc o').heap[w.heap.size+1]? =some o' from fun o o'=>by simpa using heap_alloc_new (w.alloc o) o')
 have g0:∀o,(Instr.mapUpdate 229 (.map (some (w.heap.size+1))) (.string {data:= #[124,124]}) (.int .i64 15)).run Tryz.prog ((w.alloc o).alloc (.map (pre 0 0) 0))= .ok () ((w.alloc o).alloc (.map (pre 0 1) 1)):=fun o=>by simpa using ziX (w.alloc o)
 have hlt:=h.lt
 have HRd:=Lib.hid h
 clear hr h ih
 cases r with
 |no p=>
  have hrow:=fun m W a b c d=>zE (hrow m W a b c d)
  go_enter Tryz.func157,Tryz.ntmps157
  go_wp2_with (go_at_call 168;refine(hrow (w.heap.size+1) _ (World.grownBy_alloc _ _ _) (hheap.out _ _) (by omega) ((HRd.out.alloc _).alloc _)).mono ?_;rintro e w' ⟨ch,rfl,hF⟩)
  exact⟨rfl,_,rfl,hF.later (grew_alloc2 w _ _)⟩
 |ok ts j=>
  have hrow:=fun m W a b c d=>zz (hrow m W a b c d)
  go_enter Tryz.func157,Tryz.ntmps157
  go_wp2_with (go_at_call 168;refine(hrow (w.heap.size+1) _ (World.grownBy_alloc _ _ _) (hheap.out _ _) (by omega) ((HRd.out.alloc _).alloc _)).mono ?_;rintro e w' ⟨t,p,rfl,rfl,hT,hR,hG⟩)
  go_ret
  exact post_tree rfl (hT.mono (old_le (grew_alloc2 w _ _))) hR (grown_trans (grew_alloc2 w _ _) hG) 0
theorem step_atom(C:Ctx)(n:Nat)(ih:∀f,f<=n->Exprs C f)(i:Nat)(w:World)(r:Res (List Tr))(hr:rd C (n+1) .atom i=some r)(h:Rd C i w):Calls Tryz.prog 181 #[.pointer (some ⟨C.r,0,none⟩)] w (zG C w r (isTree C w)):=by
 have hX:=(ih n (Nat.le_refl _)).expr
 have hlt:=h.lt
 clear ih
 simp only[rd] at hr
 by_cases c1:comesB C.l i ⟨#[116,114,117,101]⟩=true
 ·rw[if_pos c1] at hr
  have HE:=Lib.hid (Option.some.inj hr)
  clear hr hX
  go_enter Tryz.func181,Tryz.ntmps181
  go_wp2_with (first|(go_at_call 78;with_reducible refine(yC C i _ (by assumption)).mono ?_;rintro e w1 ⟨rfl,hR1,hG1⟩)|(go_at_call 79;with_reducible refine(skip_yes C i ⟨#[116,114,117,101]⟩ _ (by assumption) c1).mono ?_;rintro e w2 ⟨rfl,hR2,hG2⟩)|(go_at_call 80;with_reducible refine(leaf_any ⟨0,11,⟨#[]⟩,1,0,placeOf C.l C.e i⟩ _ _ _ _).mono ?_;rintro e wl ⟨rfl,rfl⟩))
  go_ret
  exact post_leaf0 ⟨0,11,⟨#[]⟩,1,0,placeOf C.l C.e i⟩ HE.out.symm hR2 (grown_trans hG1 hG2) _ _
 ·rw[if_neg c1] at hr
  have d1:comesB C.l i ⟨#[116,114,117,101]⟩=false:=by simpa using c1
  clear c1
  by_cases c2:comesB C.l i ⟨#[102,97,108,115,101]⟩=true
  ·rw[if_pos c2] at hr
   have HE:=Lib.hid (Option.some.inj hr)
   clear hr hX
   go_enter Tryz.func181,Tryz.ntmps181
   go_wp2_with (first|(go_at_call 78;with_reducible refine(yC C i _ (by assumption)).mono ?_;rintro e w1 ⟨rfl,hR1,hG1⟩)|(go_at_call 79;with_reducible refine(skip_not C i ⟨#[116,114,117,101]⟩ _ (by assumption) d1).mono ?_;rintro e w2 ⟨rfl,hR2,hG2⟩)|(go_at_call 79;with_reducible refine(skip_yes C i ⟨#[102,97,108,115,101]⟩ _ (by assumption) c2).mono ?_;rintro e w3 ⟨rfl,hR3,hG3⟩)|(go_at_call 80;with_reducible refine(leaf_any ⟨0,11,⟨#[]⟩,0,0,placeOf C.l C.e i⟩ _ _ _ _).mono ?_;rintro e wl ⟨rfl,rfl⟩))
   go_ret
   exact post_leaf0 ⟨0,11,⟨#[]⟩,0,0,placeOf C.l C.e i⟩ HE.out.symm hR3 (grown_trans hG1 (grown_trans hG2 hG3)) _ _
  ·rw[if_neg c2] at hr
   have d2:comesB C.l i ⟨#[102,97,108,115,101]⟩=false:=by simpa using c2
   clear c2
   by_cases c3:comesB C.l i ⟨#[40]⟩=true
   ·rw[if_pos c3] at hr
    cases hx:rd C n (.row 0) (i+1) with
    |none=>rw[hx] at hr;cases hr
    |some x=>
     rw[hx] at hr
     have hS:=fun W a=>hX (i+1) W x hx a
     clear hx
     cases x with
     |no p=>
      obtain rfl:Res.no p=r:=by simpa only [andThen,Option.some.injEq] using hr
      have hS:=fun W a=>zE (hS W a)
      clear hr hX
      go_enter Tryz.func181,Tryz.ntmps181
      go_wp2_with (first|(go_at_call 78;with_reducible refine(yC C i _ (by assumption)).mono ?_;rintro e w1 ⟨rfl,hR1,hG1⟩)|(go_at_call 79;with_reducible refine(skip_not C i ⟨#[116,114,117,101]⟩ _ (by assumption) d1).mono ?_;rintro e w2 ⟨rfl,hR2,hG2⟩)|(go_at_call 79;with_reducible refine(skip_not C i ⟨#[102,97,108,115,101]⟩ _ (by assumption) d2).mono ?_;rintro e w3 ⟨rfl,hR3,hG3⟩)|(go_at_call 79;with_reducible refine(skip_yes C i ⟨#[40]⟩ _ (by assumption) c3).mono ?_;rintro e w4 ⟨rfl,hR4,hG4⟩)|(go_at_call 157;with_reducible refine(hS _ (by assumption)).mono ?_;rintro e w5 ⟨ch,rfl,hF⟩))
      exact⟨rfl,_,rfl,hF.later (grown_trans hG1 (grown_trans hG2 (grown_trans hG3 hG4)))⟩
     |ok ts j=>
      have hS:=fun W a=>zz (hS W a)
      simp only[andThen] at hr
      by_cases c4:comesB C.l j ⟨#[41]⟩=true
      ·simp only[wantR,if_pos c4,andThen] at hr
       have HE:=Lib.hid (Option.some.inj hr)
       clear hr hX
       go_enter Tryz.func181,Tryz.ntmps181
       go_wp2_with (first|(go_at_call 78;with_reducible refine(yC C i _ (by assumption)).mono ?_;rintro e w1 ⟨rfl,hR1,hG1⟩)|(go_at_call 79;with_reducible refine(skip_not C i ⟨#[116,114,117,101]⟩ _ (by assumption) d1).mono ?_;rintro e w2 ⟨rfl,hR2,hG2⟩)|(go_at_call 79;with_reducible refine(skip_not C i ⟨#[102,97,108,115,101]⟩ _ (by assumption) d2).mono ?_;rintro e w3 ⟨rfl,hR3,hG3⟩)|(go_at_call 79;with_reducible refine(skip_yes C i ⟨#[40]⟩ _ (by assumption) c3).mono ?_;rintro e w4 ⟨rfl,hR4,hG4⟩)|(go_at_call 157;with_reducible refine(hS _ (by assumption)).mono ?_;rintro e w5 ⟨t5,p5,ht5,rfl,hT5,hR5,hG5⟩)|(go_at_call 82;with_reducible refine(want_any C j ⟨#[41]⟩ _ (by assumption) c4).mono ?_;rintro e w6 ⟨rfl,hR6,hG6⟩))
       subst ht5
       go_ret
       exact post_tree HE.out.symm ((hT5.mono (old_le (grown_trans hG1 (grown_trans hG2 (grown_trans hG3 hG4))))).grew hG6) hR6 (grown_trans hG1 (grown_trans hG2 (grown_trans hG3 (grown_trans hG4 (grown_trans hG5 hG6))))) 0
      ·have c4n:comesB C.l j ⟨#[41]⟩=false:=by simpa using c4
       simp only[wantR,if_neg c4,andThen,Option.some.injEq] at hr
       subst hr
       clear c4
       go_enter Tryz.func181,Tryz.ntmps181
       go_wp2_with (first|(go_at_call 78;with_reducible refine(yC C i _ (by assumption)).mono ?_;rintro e w1 ⟨rfl,hR1,hG1⟩)|(go_at_call 79;with_reducible refine(skip_not C i ⟨#[116,114,117,101]⟩ _ (by assumption) d1).mono ?_;rintro e w2 ⟨rfl,hR2,hG2⟩)|(go_at_call 79;with_reducible refine(skip_not C i ⟨#[102,97,108,115,101]⟩ _ (by assumption) d2).mono ?_;rintro e w3 ⟨rfl,hR3,hG3⟩)|(go_at_call 79;with_reducible refine(skip_yes C i ⟨#[40]⟩ _ (by assumption) c3).mono ?_;rintro e w4 ⟨rfl,hR4,hG4⟩)|(go_at_call 157;with_reducible refine(hS _ (by assumption)).mono ?_;rintro e w5 ⟨t5,p5,ht5,rfl,hT5,hR5,hG5⟩)|(go_at_call 82;with_reducible refine(want_not C j ⟨#[41]⟩ _ (by assumption) c4n).mono ?_;rintro e w6 ⟨ch,rfl,hF⟩))
       exact⟨rfl,_,rfl,hF.later (grown_trans hG1 (grown_trans hG2 (grown_trans hG3 (grown_trans hG4 hG5))))⟩
   ·rw[if_neg c3] at hr
    have d3:comesB C.l i ⟨#[40]⟩=false:=by simpa using c3
    clear c3
    by_cases c5:namedB C.l i=true
    ·rw[if_pos c5] at hr
     by_cases c6:comesB C.l (i+1) ⟨#[91]⟩=true
     ·rw[if_pos c6] at hr
      cases hx:rd C n (.row 0) (i+2) with
      |none=>rw[hx] at hr;cases hr
      |some x=>
       rw[hx] at hr
       have hS:=fun W a=>hX (i+2) W x hx a
       clear hx
       cases x with
       |no p=>
        obtain rfl:Res.no p=r:=by simpa only [andThen,Option.some.injEq] using hr
        have hS:=fun W a=>zE (hS W a)
        clear hr hX
        go_enter Tryz.func181,Tryz.ntmps181
        go_wp2_with (first|(go_at_call 78;with_reducible refine(yC C i _ (by assumption)).mono ?_;rintro e w1 ⟨rfl,hR1,hG1⟩)|(go_at_call 79;with_reducible refine(skip_not C i ⟨#[116,114,117,101]⟩ _ (by assumption) d1).mono ?_;rintro e w2 ⟨rfl,hR2,hG2⟩)|(go_at_call 79;with_reducible refine(skip_not C i ⟨#[102,97,108,115,101]⟩ _ (by assumption) d2).mono ?_;rintro e w3 ⟨rfl,hR3,hG3⟩)|(go_at_call 79;with_reducible refine(skip_not C i ⟨#[40]⟩ _ (by assumption) d3).mono ?_;rintro e w4 ⟨rfl,hR4,hG4⟩)|(go_at_call 121;with_reducible refine(named_yes C i _ (by assumption) c5).mono ?_;rintro e w5 ⟨rfl,hR5,hG5⟩)|(go_at_call 81;with_reducible refine(name_yes C i _ (by assumption) c5).mono ?_;rintro e w6 ⟨rfl,hR6,hG6⟩)|(go_at_call 79;with_reducible refine(skip_yes C (i+1) ⟨#[91]⟩ _ (by assumption) c6).mono ?_;rintro e w7 ⟨rfl,hR7,hG7⟩)|(go_at_call 157;with_reducible refine(hS _ (by assumption)).mono ?_;rintro e w8 ⟨ch,rfl,hF⟩))
        exact⟨rfl,_,rfl,hF.later (grown_trans hG1 (grown_trans hG2 (grown_trans hG3 (grown_trans hG4 (grown_trans hG5 (grown_trans hG6 hG7))))))⟩
       |ok ts j=>
        have hS:=fun W a=>zz (hS W a)
        simp only[andThen] at hr
        by_cases c7:comesB C.l j ⟨#[93]⟩=true
        ·simp only[wantR,if_pos c7,andThen] at hr
         have HE:=Lib.hid (Option.some.inj hr)
         clear hr hX
         go_enter Tryz.func181,Tryz.ntmps181
         go_wp2_with (first|(go_at_call 78;with_reducible refine(yC C i _ (by assumption)).mono ?_;rintro e w1 ⟨rfl,hR1,hG1⟩)|(go_at_call 79;with_reducible refine(skip_not C i ⟨#[116,114,117,101]⟩ _ (by assumption) d1).mono ?_;rintro e w2 ⟨rfl,hR2,hG2⟩)|(go_at_call 79;with_reducible refine(skip_not C i ⟨#[102,97,108,115,101]⟩ _ (by assumption) d2).mono ?_;rintro e w3 ⟨rfl,hR3,hG3⟩)|(go_at_call 79;with_reducible refine(skip_not C i ⟨#[40]⟩ _ (by assumption) d3).mono ?_;rintro e w4 ⟨rfl,hR4,hG4⟩)|(go_at_call 121;with_reducible refine(named_yes C i _ (by assumption) c5).mono ?_;rintro e w5 ⟨rfl,hR5,hG5⟩)|(go_at_call 81;with_reducible refine(name_yes C i _ (by assumption) c5).mono ?_;rintro e w6 ⟨rfl,hR6,hG6⟩)|(go_at_call 79;with_reducible refine(skip_yes C (i+1) ⟨#[91]⟩ _ (by assumption) c6).mono ?_;rintro e w7 ⟨rfl,hR7,hG7⟩)|(go_at_call 157;with_reducible refine(hS _ (by assumption)).mono ?_;rintro e w8 ⟨t8,p8,ht8,rfl,hT8,hR8,hG8⟩)|(go_at_call 82;with_reducible refine(want_any C j ⟨#[93]⟩ _ (by assumption) c7).mono ?_;rintro e w9 ⟨rfl,hR9,hG9⟩)|(go_at_call 80;with_reducible refine(leaf_any ⟨0,13,textAt C.l i,0,0,placeOf C.l C.e i⟩ _ _ _ _).mono ?_;rintro e wl ⟨rfl,rfl⟩))
         subst ht8
         go_ret
         exact post_leaf1 ⟨0,13,textAt C.l i,0,0,placeOf C.l C.e i⟩ HE.out.symm ((hT8.mono (old_le (grown_trans hG1 (grown_trans hG2 (grown_trans hG3 (grown_trans hG4 (grown_trans hG5 (grown_trans hG6 hG7)))))))).grew hG9) hR9 (grown_trans hG1 (grown_trans hG2 (grown_trans hG3 (grown_trans hG4 (grown_trans hG5 (grown_trans hG6 (grown_trans hG7 (grown_trans hG8 hG9))))))))
        ·have c7n:comesB C.l j ⟨#[93]⟩=false:=by simpa using c7
         simp only[wantR,if_neg c7,andThen,Option.some.injEq] at hr
         subst hr
         clear c7
         go_enter Tryz.func181,Tryz.ntmps181
         go_wp2_with (first|(go_at_call 78;with_reducible refine(yC C i _ (by assumption)).mono ?_;rintro e w1 ⟨rfl,hR1,hG1⟩)|(go_at_call 79;with_reducible refine(skip_not C i ⟨#[116,114,117,101]⟩ _ (by assumption) d1).mono ?_;rintro e w2 ⟨rfl,hR2,hG2⟩)|(go_at_call 79;with_reducible refine(skip_not C i ⟨#[102,97,108,115,101]⟩ _ (by assumption) d2).mono ?_;rintro e w3 ⟨rfl,hR3,hG3⟩)|(go_at_call 79;with_reducible refine(skip_not C i ⟨#[40]⟩ _ (by assumption) d3).mono ?_;rintro e w4 ⟨rfl,hR4,hG4⟩)|(go_at_call 121;with_reducible refine(named_yes C i _ (by assumption) c5).mono ?_;rintro e w5 ⟨rfl,hR5,hG5⟩)|(go_at_call 81;with_reducible refine(name_yes C i _ (by assumption) c5).mono ?_;rintro e w6 ⟨rfl,hR6,hG6⟩)|(go_at_call 79;with_reducible refine(skip_yes C (i+1) ⟨#[91]⟩ _ (by assumption) c6).mono ?_;rintro e w7 ⟨rfl,hR7,hG7⟩)|(go_at_call 157;with_reducible refine(hS _ (by assumption)).mono ?_;rintro e w8 ⟨t8,p8,ht8,rfl,hT8,hR8,hG8⟩)|(go_at_call 82;with_reducible refine(want_not C j ⟨#[93]⟩ _ (by assumption) c7n).mono ?_;rintro e w9 ⟨ch,rfl,hF⟩))
         exact⟨rfl,_,rfl,hF.later (grown_trans hG1 (grown_trans hG2 (grown_trans hG3 (grown_trans hG4 (grown_trans hG5 (grown_trans hG6 (grown_trans hG7 hG8)))))))⟩
     ·rw[if_neg c6] at hr
      have d6:comesB C.l (i+1) ⟨#[91]⟩=false:=by simpa using c6
      clear c6
      have HE:=Lib.hid (Option.some.inj hr)
      clear hr hX
      go_enter Tryz.func181,Tryz.ntmps181
      go_wp2_with (first|(go_at_call 78;with_reducible refine(yC C i _ (by assumption)).mono ?_;rintro e w1 ⟨rfl,hR1,hG1⟩)|(go_at_call 79;with_reducible refine(skip_not C i ⟨#[116,114,117,101]⟩ _ (by assumption) d1).mono ?_;rintro e w2 ⟨rfl,hR2,hG2⟩)|(go_at_call 79;with_reducible refine(skip_not C i ⟨#[102,97,108,115,101]⟩ _ (by assumption) d2).mono ?_;rintro e w3 ⟨rfl,hR3,hG3⟩)|(go_at_call 79;with_reducible refine(skip_not C i ⟨#[40]⟩ _ (by assumption) d3).mono ?_;rintro e w4 ⟨rfl,hR4,hG4⟩)|(go_at_call 121;with_reducible refine(named_yes C i _ (by assumption) c5).mono ?_;rintro e w5 ⟨rfl,hR5,hG5⟩)|(go_at_call 81;with_reducible refine(name_yes C i _ (by assumption) c5).mono ?_;rintro e w6 ⟨rfl,hR6,hG6⟩)|(go_at_call 79;with_reducible refine(skip_not C (i+1) ⟨#[91]⟩ _ (by assumption) d6).mono ?_;rintro e w7 ⟨rfl,hR7,hG7⟩)|(go_at_call 80;with_reducible refine(leaf_any ⟨0,12,textAt C.l i,0,0,placeOf C.l C.e i⟩ _ _ _ _).mono ?_;rintro e wl ⟨rfl,rfl⟩))
      go_ret
      exact post_leaf0 ⟨0,12,textAt C.l i,0,0,placeOf C.l C.e i⟩ HE.out.symm hR7 (grown_trans hG1 (grown_trans hG2 (grown_trans hG3 (grown_trans hG4 (grown_trans hG5 (grown_trans hG6 hG7)))))) _ _
    ·rw[if_neg c5] at hr
     have d5:namedB C.l i=false:=by simpa using c5
     clear c5 hX
     by_cases c8:numbB C.l i=true
     ·simp only[z6,if_pos c8,andThen] at hr
      have HE:=Lib.hid (Option.some.inj hr)
      clear hr
      go_enter Tryz.func181,Tryz.ntmps181
      go_wp2_with (first|(go_at_call 78;with_reducible refine(yC C i _ (by assumption)).mono ?_;rintro e w1 ⟨rfl,hR1,hG1⟩)|(go_at_call 79;with_reducible refine(skip_not C i ⟨#[116,114,117,101]⟩ _ (by assumption) d1).mono ?_;rintro e w2 ⟨rfl,hR2,hG2⟩)|(go_at_call 79;with_reducible refine(skip_not C i ⟨#[102,97,108,115,101]⟩ _ (by assumption) d2).mono ?_;rintro e w3 ⟨rfl,hR3,hG3⟩)|(go_at_call 79;with_reducible refine(skip_not C i ⟨#[40]⟩ _ (by assumption) d3).mono ?_;rintro e w4 ⟨rfl,hR4,hG4⟩)|(go_at_call 121;with_reducible refine(named_not C i _ (by assumption) d5).mono ?_;rintro e w5 ⟨rfl,hR5,hG5⟩)|(go_at_call 83;with_reducible refine(number_yes C i _ (by assumption) c8).mono ?_;rintro e w6 ⟨rfl,hR6,hG6⟩)|(go_at_call 80;with_reducible refine(leaf_any ⟨0,10,⟨#[]⟩,numAtT C.l i,0,placeOf C.l C.e i⟩ _ _ _ _).mono ?_;rintro e wl ⟨rfl,rfl⟩))
      go_ret
      exact post_leaf0 ⟨0,10,⟨#[]⟩,numAtT C.l i,0,placeOf C.l C.e i⟩ HE.out.symm hR6 (grown_trans hG1 (grown_trans hG2 (grown_trans hG3 (grown_trans hG4 (grown_trans hG5 hG6))))) _ _
     ·have d8:numbB C.l i=false:=by simpa using c8
      simp only[z6,if_neg c8,andThen,Option.some.injEq] at hr
      subst hr
      clear c8
      go_enter Tryz.func181,Tryz.ntmps181
      go_wp2_with (first|(go_at_call 78;with_reducible refine(yC C i _ (by assumption)).mono ?_;rintro e w1 ⟨rfl,hR1,hG1⟩)|(go_at_call 79;with_reducible refine(skip_not C i ⟨#[116,114,117,101]⟩ _ (by assumption) d1).mono ?_;rintro e w2 ⟨rfl,hR2,hG2⟩)|(go_at_call 79;with_reducible refine(skip_not C i ⟨#[102,97,108,115,101]⟩ _ (by assumption) d2).mono ?_;rintro e w3 ⟨rfl,hR3,hG3⟩)|(go_at_call 79;with_reducible refine(skip_not C i ⟨#[40]⟩ _ (by assumption) d3).mono ?_;rintro e w4 ⟨rfl,hR4,hG4⟩)|(go_at_call 121;with_reducible refine(named_not C i _ (by assumption) d5).mono ?_;rintro e w5 ⟨rfl,hR5,hG5⟩)|(go_at_call 83;with_reducible refine(number_no C i _ (by assumption) d8).mono ?_;rintro e w6 ⟨ch,rfl,hF⟩))
      exact⟨rfl,_,rfl,hF.later (grown_trans hG1 (grown_trans hG2 (grown_trans hG3 (grown_trans hG4 hG5))))⟩
theorem exprs_all(C:Ctx):∀f,Exprs C f:=by
 intro f
 induction f using Nat.strongRecOn with
 |_ f ih=>
  cases f with
  |zero=>exact zdX C
  |succ n=>
   have ih':∀f,f<=n->Exprs C f:=fun f hf=>ih f (by omega)
   refine⟨zeA C n ih',zin C n ih',step_r2 C n ih',step_r3 C n ih',step_r4 C n ih',fun i w r hr h=>?_,zc8 C n ih',step_atom C n ih'⟩
   simp only[rd,show(5<=5) from Nat.le_refl _,if_true] at hr
   exact(ih' n (Nat.le_refl _)).unary i w r hr h
theorem gn{P:Program}(w:World)(base:Nat)(t ty e:TypeId)(i:TypeInfo)(z:Value)(size bytes:Nat)(ht:P.underlying t=some (.slice e))(hi:P.info? e=some i)(hz:i.zero=some z)
 (hsize:i.size=size) (hby:i.bytes=bytes) (hzs:z.cells.size=size) (hsz:0<size)
 (v:Value) (n:Nat) (xs:List Value) (hown:w.ownsRow base e size v n xs)
 (a:Addr) (m c:Nat) (news:List Value) (hl:news.length=m*size) (hnews:∀j u,news[j]? =some u->w.cell? (a.add j)=some u) (h1:∀u∈news,u.oneCell'=true)
 (h63:n+m<=maxLen) (hbytes:(n+m)*bytes<=140737488355328) (hbase:base<=w.heap.size):
 ∃v' w',(Builtin.append_ #[t,t] ty #[v, .slice (some a) m c]).run P w= .ok v' w'/\w'.ownsRow base e size v' (n+m) (xs++news)/\w.grownBy w' v.ownBlock/\∀k,v'.ownBlock=some k->v.ownBlock=some k\/w.heap.size<=k:=by
 have mono:∀{w':World} {v':Value} {N:Nat} {ys:List Value},w'.ownsRow w.heap.size e size v' N ys->w'.ownsRow base e size v' N ys/\∀k,v'.ownBlock=some k->w.heap.size<=k:=by
  intro w' v' N ys h
  refine⟨⟨h.1,?_⟩,fun k hk=>(h.lt k hk).1⟩
  rcases h.2 with h2|⟨g,cap,cur,h2,h3,h4⟩
  ·exact .inl h2
  ·exact .inr ⟨g,cap,cur,h2,by omega,h4⟩
 rcases hown.2 with⟨rfl,rfl⟩|⟨g,cap,cur,rfl,hb,hg,hn,hm,hs,htake⟩
 ·obtain rfl:xs=[]:=List.eq_nil_of_length_eq_zero (by simpa using hown.1)
  obtain⟨v',w',r1,r2,r3,_⟩:=run_append_own (P:=P) w w.heap.size t ty e i z size bytes ht hi hz hsize hby hzs hsz (.slice none 0 0) 0 [] (World.ownsRow_nil w _ e size) a m c news hl hnews h1 h63 hbytes (Nat.le_refl _)
  exact⟨v',w',r1,(mono r2).1,r3,fun k hk=> .inr ((mono r2).2 k hk)⟩
 ·by_cases hroom:n+m<=cap
  ·obtain⟨w',r1,r2,r3⟩:=run_append_fits (P:=P) w base t ty e i size ht hi hsize g n cap xs hown a m c news hl hnews h1 hroom
   exact⟨_,w',r1,r2,r3,fun k hk=> .inl hk⟩
  ·have hcells:∀j u,xs[j]? =some u->w.cell? ((⟨g,0,none⟩:Addr).add j)=some u:=hown.cells rfl
   obtain⟨v',w',r1,r2,r3⟩:=run_append_arg_grows (P:=P) w t ty e i z size bytes ht hi hz hsize hby hzs hsz ⟨g,0,none⟩ n cap xs hown.1 hcells a m c news hl hnews (by omega) h63 hbytes
   exact⟨v',w',r1,(mono r2).1,⟨r3.os,r3.tape,r3.output,r3.size,fun k hk _=>r3.block k hk (by simp)⟩,fun k hk=> .inr ((mono r2).2 k hk)⟩
theorem zh{P:Program}(w:World){ops:Array Oper}{rest:List Oper}{o:Oper}{a:Act}{Q:Exit->Act->World->Prop}(hgd:o.guard=none)(s x:Operand)(t:TypeId)
 (ho:o.op= .call {callee:= .builtin .append,args:= #[s,x],argTypes:= #[t,t]})
 (base:Nat) (e:TypeId) (i:TypeInfo) (z:Value) (size bytes:Nat) (ht:P.underlying t=some (.slice e)) (hi:P.info? e=some i) (hz:i.zero=some z)
 (hsize:i.size=size) (hby:i.bytes=bytes) (hzs:z.cells.size=size) (hsz:0<size)
 (v:Value) (n:Nat) (xs:List Value) (hs:a.eval s=v) (hown:w.ownsRow base e size v n xs)
 (ad:Addr) (m c:Nat) (news:List Value) (hx:a.eval x= .slice (some ad) m c) (hl:news.length=m*size) (hnews:∀j u,news[j]? =some u->w.cell? (ad.add j)=some u) (h1:∀u∈news,u.oneCell'=true)
 (h63:n+m<=maxLen) (hbytes:(n+m)*bytes<=140737488355328) (hbase:base<=w.heap.size)
 (h:∀v' w',w'.ownsRow base e size v' (n+m) (xs++news)->w.grownBy w' v.ownBlock->(∀k,v'.ownBlock=some k->v.ownBlock=some k\/w.heap.size<=k)->wpList P ops Q rest (a.put o.dst v') w'):wpList P ops Q (o::rest) a w:=by
 refine wpList_plain hgd fun K hK=>?_
 obtain⟨v',w',hrun,r1,r2,r3⟩:=gn (P:=P) w base t o.type e i z size bytes ht hi hz hsize hby hzs hsz v n xs hown ad m c news hl hnews h1 h63 hbytes hbase
 unfold Oper.wp
 simp[execOp,ho,resolve,invoke,builtin,hs,hx,hrun,Result.andThen]
 exact hK _ _ (h v' w' r1 r2 r3)
def ptrV(p:Nat):Value:= .pointer (some ⟨p,0,none⟩)
def KidsOwn(C:Ctx)(w0 w:World)(v:Value)(ks:List Tr):Prop:=
 ∃ps:List Nat,ps.length=ks.length/\w.ownsRow w0.heap.size 89 1 v ks.length (ps.map ptrV)/\∀(j:Nat) (t:Tr),ks[j]? =some t->∃p,ps[j]? =some p/\TrAt (fun k=>Old C w0 k\/v.ownBlock=some k) w p t
theorem ux(C:Ctx)(w0 w:World):KidsOwn C w0 w (.slice none 0 0) []:=⟨[],rfl,World.ownsRow_nil _ _ _ _,fun j t hj=>by simp at hj⟩
theorem KidsOwn.row{C:Ctx}{w0 w:World}{v:Value}{ks:List Tr}(h:KidsOwn C w0 w v ks)(hr:C.r<w0.heap.size){k:Nat}(hk:v.ownBlock=some k):w0.heap.size<=k/\k≠C.r/\k<w.heap.size:=by
 obtain⟨ps,h1,h2,h3⟩:=h
 have:=h2.lt k hk
 omega
theorem KidsOwn.grew{C:Ctx}{w0 w w':World}{v:Value}{ks:List Tr}(hr:C.r<w0.heap.size)(hg:Grew C w w')(h:KidsOwn C w0 w v ks):KidsOwn C w0 w' v ks:=by
 have hrow:=fun k (hk:v.ownBlock=some k)=>h.row hr hk
 obtain⟨ps,h1,h2,h3⟩:=h
 refine⟨ps,h1,h2.kept hg ?_,fun j t hj=>?_⟩
 ·cases hv:v.ownBlock with
  |none=>exact .inl rfl
  |some k=>right;have:=(hrow k hv).2.1;simp;omega
 ·obtain⟨p,hp,hT⟩:=h3 j t hj
  exact⟨p,hp,hT.kept fun k hk hx=>hg.block k hk (by simp;rintro rfl;exact hx (.inl (.inl rfl)))⟩
theorem KidsOwn.append{C:Ctx}{w0 w w':World}{v v':Value}{ks ts:List Tr}{ps qs:List Nat}(h1:ps.length=ks.length)(h3:∀(j:Nat) (t:Tr),ks[j]? =some t->∃p,ps[j]? =some p/\TrAt (fun k=>Old C w0 k\/v.ownBlock=some k) w p t)(hq:qs.length=ts.length)
 (hts:∀(j:Nat) (t:Tr),ts[j]? =some t->∃p,qs[j]? =some p/\TrAt (fun k=>Old C w0 k\/v.ownBlock=some k) w p t) {o:Obj}
 (hown:w'.ownsRow w0.heap.size 89 1 v' (ks.length+ts.length) (ps.map ptrV++qs.map ptrV)) (hg:(w.alloc o).grownBy w' v.ownBlock) (hv:∀k,v'.ownBlock=some k->v.ownBlock=some k\/(w.alloc o).heap.size<=k):
 KidsOwn C w0 w' v' (ks++ts):=by
 have hkeep:∀{p:Nat} {t:Tr},TrAt (fun k=>Old C w0 k\/v.ownBlock=some k) w p t->TrAt (fun k=>Old C w0 k\/v'.ownBlock=some k) w' p t:=by
  intro p t hT
  have hT3:=hT.bound.kept (w':=w') fun k hk hx=>by
   rw[hg.block k (by simp;omega) (fun e=>hx (.inl (.inr e.symm)))]
   exact(World.grownBy_alloc w o none).block k hk (by simp)
  refine hT3.mono fun k hk=>?_
  rcases hk with hk|hk
  ·exact .inl (.inl hk)
  ·rcases hv k hk with h|h
   ·exact .inl (.inr h)
   ·exact .inr (by simp at h;omega)
 refine⟨ps++qs,by simp[h1,hq],by rw[List.map_append,List.length_append];exact hown,fun j t hj=>?_⟩
 by_cases hlt:j<ks.length
 ·rw[List.getElem?_append_left hlt] at hj
  obtain⟨p,hp,hT⟩:=h3 j t hj
  exact⟨p,by rw[List.getElem?_append_left (by omega)];exact hp,hkeep hT⟩
 ·rw[List.getElem?_append_right (by omega)] at hj
  obtain⟨p,hp,hT⟩:=hts _ t hj
  exact⟨p,by rw[List.getElem?_append_right (by omega),h1];exact hp,hkeep hT⟩
theorem new1(w:World)(p:Nat):∀(j:Nat) (u:Value),[ptrV p][j]? =some u->(w.alloc (.cells #[.pointer (some ⟨p,0,none⟩)] 89)).cell? ((⟨w.heap.size,0,none⟩:Addr).add j)=some u:=by
 intro j u hj
 match j,hj with
 |0,hj=>simp at hj;subst hj;simp[go_sem,Addr.add,ptrV]
 |j+1,hj=>simp at hj
theorem new2(w:World)(p q:Nat):∀(j:Nat) (u:Value),[ptrV p,ptrV q][j]? =some u->(w.alloc (.cells #[.pointer (some ⟨p,0,none⟩), .pointer (some ⟨q,0,none⟩)] 89)).cell? ((⟨w.heap.size,0,none⟩:Addr).add j)=some u:=by
 intro j u hj
 match j,hj with
 |0,hj=>simp at hj;subst hj;simp[go_sem,Addr.add,ptrV]
 |1,hj=>simp at hj;subst hj;simp[go_sem,Addr.add,ptrV]
 |j+2,hj=>simp at hj
theorem yT(l:List Nat):∀u∈l.map ptrV,u.oneCell'=true:=by
 intro u hu
 obtain⟨p,_,rfl⟩:=List.mem_map.1 hu
 rfl
theorem KidsOwn.kids{C:Ctx}{w0 w:World}{v:Value}{ks:List Tr}(hr:C.r<w0.heap.size)(h:KidsOwn C w0 w v ks):∃b cap,v= .slice b ks.length cap/\xI (Old C w0) w b cap ks:=by
 have hrow:=fun k (hk:v.ownBlock=some k)=>h.row hr hk
 obtain⟨ps,h1,h2,h3⟩:=h
 rcases h2.2 with⟨rfl,hn⟩|⟨g,cap,cur,rfl,hb,hg,hn,hm,hs,htake⟩
 ·have hks:ks=[]:=List.eq_nil_of_length_eq_zero hn
  subst hks
  exact⟨none,0,rfl,wE _ _ _ _⟩
 ·refine⟨_,_,rfl,g,fun j=>ps.getD j 0,fun _=>rfl,fun _=>by unfold Old;omega,hn,fun j t hj=>?_,fun j t hj=>?_⟩
  ·obtain⟨p,hp,_⟩:=h3 j t hj
   have:=h2.cells rfl j (ptrV p) (by simp[hp])
   rw[show((⟨g,0,none⟩:Addr).add j)=⟨g,j,none⟩ from by unfold Addr.add;split<;>simp_all] at this
   rw[this]
   simp[ptrV,List.getD,hp]
  ·obtain⟨p,hp,hT⟩:=h3 j t hj
   have e:ps.getD j 0=p:=by simp[List.getD,hp]
   show TrAt (Old C w0) w (ps.getD j 0) t
   rw[e]
   exact hT.mono fun k hk=> .inl hk
theorem Rd.row{C:Ctx}{i i0:Nat}{w0 w w':World}(h0:Rd C i0 w0)(h:Rd C i w){row:Option Nat}(hg:w.grownBy w' row)(hN:∀k,row=some k->w0.heap.size<=k):Rd C i w':=by
 have k1:=h0.lt
 have k2:=h0.lt0
 have k3:=h0.gtok
 have l1:=h.lt
 have l2:=h.lt0
 have same:∀n,n<w.heap.size->n<w0.heap.size->w'.heap[n]? =w.heap[n]? :=fun n h1 h2=>hg.block n h1 (fun e=>by have:=hN n e.symm;omega)
 have c:∀n x,n<w.heap.size->n<w0.heap.size->w'.cell? ⟨n,x,none⟩=w.cell? ⟨n,x,none⟩:=fun n x h1 h2=>World.cell?_of_block (a:=⟨n,x,none⟩) (same n h1 h2)
 have f:∀n x,n<w.heap.size->n<w0.heap.size->w'.frozen? ⟨n,x,none⟩=w.frozen? ⟨n,x,none⟩:=fun n x h1 h2=>World.frozen?_of_block (a:=⟨n,x,none⟩) (same n h1 h2)
 have hgt:∀b cap g,w.cell? ⟨C.r,0,none⟩=some (.slice b C.l.length cap)->(C.l≠[]->b=some ⟨g,0,none⟩)->C.l≠[]->g<w0.heap.size:=by
  intro b cap g h1 h2 hne
  have h3:=h.tok _ _ _ h1 hne
  rw[h2 hne] at h3
  have:g=C.g:=by simpa using h3
  have:=k3 hne
  omega
 obtain⟨⟨b,cap,g,a0,hb,hcap,ht,hg2⟩,a1,a2,af,hle,hlen,he,hp,hk0⟩:=h
 exact⟨⟨b,cap,g,(c _ _ l1 k1).trans a0,hb,hcap,ht.of fun hne x=>c _ _ (Rd.glt (i:=i) ht hne) (hgt b cap g a0 hb hne),hg2⟩,(c _ _ l1 k1).trans a1,(c _ _ l1 k1).trans a2,(f _ _ l1 k1).trans af,hle,hlen,(c _ _ l2 k2).trans he,hp,fun b n cap hb=>hk0 b n cap ((c _ _ l1 k1).symm.trans hb)⟩
structure StI (C:Ctx) (w0:World) (i0 N B:Nat) (kind:Int) (name:ByteArray) (num at_:Int) (j:Nat) (w:World):Prop where
 rd0:Rd C i0 w0
 rd:Rd C j w
 grew:Grew C w0 w
 six:Six w N (.int .i64 0) (.int .i64 kind) (.string name) (.int .i64 num) (.int .i64 0) (.int .i64 at_)
 lo:w0.heap.size<=N
 lt:N<w.heap.size
 big:B<=w.heap.size
section
variable {C:Ctx} {w0 w w':World} {i0 N B j j':Nat} {kind num at_:Int} {name:ByteArray}
theorem StI.ne(h:StI C w0 i0 N B kind name num at_ j w):N≠C.r:=by have:=h.rd0.lt;have:=h.lo;omega
theorem StI.call(h:StI C w0 i0 N B kind name num at_ j w)(hR:Rd C j' w')(hG:Grew C w w'):StI C w0 i0 N B kind name num at_ j' w':=
 ⟨h.rd0,hR,grown_trans h.grew hG,h.six.grown hG h.lt (by have:=h.ne;simp;omega),h.lo,Nat.lt_of_lt_of_le h.lt hG.size,Nat.le_trans h.big hG.size⟩
theorem qI{row:Option Nat}(h:Grew C w0 w)(hg:w.grownBy w' row)(hN:∀k,row=some k->w0.heap.size<=k):Grew C w0 w':=
 ⟨hg.os.trans h.os,hg.tape.trans h.tape,hg.output.trans h.output,Nat.le_trans h.size hg.size,fun k hk hr=>(hg.block k (Nat.lt_of_lt_of_le hk h.size) (fun e=>by have:=hN k e.symm;omega)).trans (h.block k hk hr)⟩
theorem StI.grown{row:Option Nat}(h:StI C w0 i0 N B kind name num at_ j w)(hg:w.grownBy w' row)(hN:∀k,row=some k->w0.heap.size<=k/\k≠N):StI C w0 i0 N B kind name num at_ j w':=
 ⟨h.rd0,h.rd0.row h.rd hg (fun k hk=>(hN k hk).1),qI h.grew hg (fun k hk=>(hN k hk).1),h.six.grown hg h.lt (fun e=>(hN N e.symm).2 rfl),h.lo,Nat.lt_of_lt_of_le h.lt hg.size,Nat.le_trans h.big hg.size⟩
theorem StI.alloc(h:StI C w0 i0 N B kind name num at_ j w)(o:Obj):StI C w0 i0 N B kind name num at_ j (w.alloc o):=h.grown (World.grownBy_alloc w o none) (fun k hk=>by cases hk)
theorem StI.setKind(h:StI C w0 i0 N B kind name num at_ j w)(x:Int):StI C w0 i0 N B x name num at_ j (w.setCell ⟨N,1,none⟩ (.int .i64 x)):=by
 have hs:=zq w N 1 (.int .i64 x)
 obtain⟨c0,c1,c2,c3,c4,c5,f0,f1,f2,f3,f4,f5⟩:=h.six
 exact⟨h.rd0,h.rd0.set h.rd h.lo _ _,qI h.grew hs (fun k hk=>by cases hk;exact h.lo),by constructor<;>simp[go_sem,c0,c1,c2,c3,c4,c5,f0,f1,f2,f3,f4,f5],h.lo,Nat.lt_of_lt_of_le h.lt hs.size,Nat.le_trans h.big hs.size⟩
theorem StI.setName(h:StI C w0 i0 N B kind name num at_ j w)(x:ByteArray):StI C w0 i0 N B kind x num at_ j (w.setCell ⟨N,2,none⟩ (.string x)):=by
 have hs:=zq w N 2 (.string x)
 obtain⟨c0,c1,c2,c3,c4,c5,f0,f1,f2,f3,f4,f5⟩:=h.six
 exact⟨h.rd0,h.rd0.set h.rd h.lo _ _,qI h.grew hs (fun k hk=>by cases hk;exact h.lo),by constructor<;>simp[go_sem,c0,c1,c2,c3,c4,c5,f0,f1,f2,f3,f4,f5],h.lo,Nat.lt_of_lt_of_le h.lt hs.size,Nat.le_trans h.big hs.size⟩
theorem StI.setNum(h:StI C w0 i0 N B kind name num at_ j w)(x:Int):StI C w0 i0 N B kind name x at_ j (w.setCell ⟨N,3,none⟩ (.int .i64 x)):=by
 have hs:=zq w N 3 (.int .i64 x)
 obtain⟨c0,c1,c2,c3,c4,c5,f0,f1,f2,f3,f4,f5⟩:=h.six
 exact⟨h.rd0,h.rd0.set h.rd h.lo _ _,qI h.grew hs (fun k hk=>by cases hk;exact h.lo),by constructor<;>simp[go_sem,c0,c1,c2,c3,c4,c5,f0,f1,f2,f3,f4,f5],h.lo,Nat.lt_of_lt_of_le h.lt hs.size,Nat.le_trans h.big hs.size⟩
end
theorem old_sz{C:Ctx}{w w1:World}(h:w.heap.size<=w1.heap.size):∀k,Old C w k->Old C w1 k:=fun k hk=>hk.imp id fun h'=>Nat.lt_of_lt_of_le h' h
theorem post_node{C:Ctx}{w0 wB w:World}{r:Res (List Tr)}{j:Nat}{ks:List Tr}{b:Option Addr}{cap:Nat}(n:Nd)(hr:r= .ok [.mk n ks] j)(hK:xI (Old C wB) w b cap ks)(hB:w0.heap.size<=wB.heap.size)(hR:Rd C j w)(hG:Grew C w0 w):
 zG C w0 r (isTree C w0) (.returned (.pointer (some ⟨w.heap.size+1,0,none⟩))) ((w.alloc (.cells #[.int .i64 n.depth, .int .i64 n.kind, .string n.name, .int .i64 n.num, .int .i64 n.op, .int .i64 n.at_] 50)).alloc (.cells #[.int .i64 n.depth, .int .i64 n.kind, .string n.name, .int .i64 n.num, .int .i64 n.op, .int .i64 n.at_, .slice b ks.length cap] 148)):=by
 have hK':xI (Old C w0) w b cap ks:=by
  obtain⟨g,q,h1,h2,h3,h4,h5⟩:=hK
  exact⟨g,q,h1,fun h h'=>h2 h (old_sz hB _ h'),h3,h4,fun j t hj=>(h5 j t hj).mono (old_sz hB)⟩
 exact⟨_,j,hr,⟨_,_,rfl,rfl,tr_leaf n hK' hR.lt hG.size⟩,(hR.alloc _).alloc _,grown_trans hG (grown_trans (World.grownBy_alloc _ _ _) (World.grownBy_alloc _ _ _))⟩
theorem want_at(C:Ctx)(i:Nat)(s:ByteArray)(w:World)(p:Nat)(hp:p=w.heap.size)(h:Rd C i w)(hc:comesB C.l i s=true):Calls Tryz.prog 82 #[.pointer (some ⟨C.r,0,none⟩), .slice (some ⟨p,0,none⟩) 1 1] (w.alloc (.cells #[.string s] 9)) fun x w'=>x= .returned (.tuple #[])/\Rd C (i+1) w'/\Grew C w w':=by
 subst hp
 exact want_any C i s w h hc
theorem wantnot_at(C:Ctx)(i:Nat)(s:ByteArray)(w:World)(p:Nat)(hp:p=w.heap.size)(h:Rd C i w)(hc:comesB C.l i s=false):Calls Tryz.prog 82 #[.pointer (some ⟨C.r,0,none⟩), .slice (some ⟨p,0,none⟩) 1 1] (w.alloc (.cells #[.string s] 9)) fun x w'=>∃ch,x= .panicked ch/\je C w (placeOf C.l C.e i) ch w':=by
 subst hp
 exact want_not C i s w h hc
theorem vP:(Tryz.prog.info? 89).map (fun i=>(i.zero,i.size,i.bytes))=some (some (.pointer none),1,8):=by kernel_rfl
def wF(C:Ctx)(w0:World):List Tr->Value->World->Prop:=fun ts v w'=>(ts=[]/\v= .pointer none)\/isTree C w0 ts v w'
theorem stmt_of_tree{C:Ctx}{w0 w:World}{r:Res (List Tr)}{e:Ending}{w':World}(h:zG C w r (isTree C w0) e w'):zG C w r (wF C w0) e w':=by
 cases e with
 |returned v=>obtain⟨a,j,h1,h2,h3⟩:=h;exact⟨a,j,h1, .inr h2,h3⟩
 |panicked ch=>exact h
 |outgrown=>exact h
def zbA(C:Ctx)(f:Nat):Prop:=∀i w r,rd C f .block i=some r->Rd C i w->Calls Tryz.prog 158 #[.pointer (some ⟨C.r,0,none⟩)] w (zG C w r (isTree C w))
def zem(C:Ctx)(f:Nat):Prop:=∀i w r,rd C f .stmt i=some r->Rd C i w->Calls Tryz.prog 122 #[.pointer (some ⟨C.r,0,none⟩)] w (zG C w r (wF C w))
theorem yD{C:Ctx}{wB w1 w2 w:World}{v:Value}{p:Nat}{t:Tr}(hT:TrAt (Old C w1) w p t)(hB:wB.heap.size<=w1.heap.size)(hv:∀k,v.ownBlock=some k->k<w1.heap.size):
 ∀(j:Nat) (u:Tr),[t][j]? =some u->∃q,[p][j]? =some q/\TrAt (fun k=>Old C wB k\/v.ownBlock=some k) w q u:=by
 intro j u hj
 match j,hj with
 |0,hj=>
  simp at hj;subst hj
  exact⟨p,rfl,hT.mono fun k hk=>hk.elim (old_sz hB k) fun h=> .inr (hv k h)⟩
 |j+1,hj=>simp at hj
theorem ub{C:Ctx}{wB w1 w2 w:World}{v:Value}{p q:Nat}{t u:Tr}(hT:TrAt (Old C w1) w p t)(hB:wB.heap.size<=w1.heap.size)(hv:∀k,v.ownBlock=some k->k<w1.heap.size)(hT2:TrAt (Old C w2) w q u)(hB2:wB.heap.size<=w2.heap.size)(hv2:∀k,v.ownBlock=some k->k<w2.heap.size):
 ∀(j:Nat) (x:Tr),[t,u][j]? =some x->∃y,[p,q][j]? =some y/\TrAt (fun k=>Old C wB k\/v.ownBlock=some k) w y x:=by
 intro j x hj
 match j,hj with
 |0,hj=>
  simp at hj;subst hj
  exact⟨p,rfl,hT.mono fun k hk=>hk.elim (old_sz hB k) fun h=> .inr (hv k h)⟩
 |1,hj=>
  simp at hj;subst hj
  exact⟨q,rfl,hT2.mono fun k hk=>hk.elim (old_sz hB2 k) fun h=> .inr (hv2 k h)⟩
 |j+2,hj=>simp at hj
theorem zm(k:Nat):(Value.slice none 0 0).ownBlock=some k->False:=fun h=>by cases h
theorem stmt_step(C:Ctx)(n:Nat)(hB:zbA C n):zem C (n+1):=by
 intro i w r hr h
 have hX:=(exprs_all C n).expr
 have hat:=yC C i w h
 simp only[rd] at hr
 have HR:=Lib.hid hr
 have HX:=Lib.hid hX
 have HBL:=Lib.hid hB
 have hlt:=h.lt
 have H0:=Lib.hid h
 obtain⟨ti,hi,hz0,hz1,hz2⟩:=info_parts vP
 clear hr hX hB h
 go_enter Tryz.func122,Tryz.ntmps122
 go_upto_region 4 with(go_at_call 78;refine(hat).mono ?_;rintro e w1 ⟨rfl,hR1,hG1⟩)
 have S0:StI C w i w1.heap.size (w1.heap.size+1) 0 ⟨#[]⟩ 0 (placeOf C.l C.e i) i (w1.alloc (Obj.cells #[Value.int IntKind.i64 0,Value.int IntKind.i64 0,Value.string {data:= #[]},Value.int IntKind.i64 0,Value.int IntKind.i64 0,Value.int IntKind.i64 (placeOf C.l C.e i)] 50)):=
  ⟨H0.out,hR1.alloc _,grown_trans hG1 (World.grownBy_alloc _ _ _),xC _ _ _ _ _ _ _ _,hG1.size,by simp,by simp⟩
 have hwb:w.heap.size<=(w1.alloc (Obj.cells #[Value.int IntKind.i64 0,Value.int IntKind.i64 0,Value.string {data:= #[]},Value.int IntKind.i64 0,Value.int IntKind.i64 0,Value.int IntKind.i64 (placeOf C.l C.e i)] 50)).heap.size:=by have:=hG1.size;simp;omega
 have hbe:w1.heap.size+1=(w1.alloc (Obj.cells #[Value.int IntKind.i64 0,Value.int IntKind.i64 0,Value.string {data:= #[]},Value.int IntKind.i64 0,Value.int IntKind.i64 0,Value.int IntKind.i64 (placeOf C.l C.e i)] 50)).heap.size:=by simp
 rw[hbe] at S0
 have hNB:w1.heap.size<(w1.alloc (Obj.cells #[Value.int IntKind.i64 0,Value.int IntKind.i64 0,Value.string {data:= #[]},Value.int IntKind.i64 0,Value.int IntKind.i64 0,Value.int IntKind.i64 (placeOf C.l C.e i)] 50)).heap.size:=by simp
 clear hbe hat
 generalize (w1.alloc (Obj.cells #[Value.int IntKind.i64 0,Value.int IntKind.i64 0,Value.string {data:= #[]},Value.int IntKind.i64 0,Value.int IntKind.i64 0,Value.int IntKind.i64 (placeOf C.l C.e i)] 50))=wB at S0 hwb hNB⊢
 generalize w1.heap.size=N at S0 hNB⊢
 have hrB:C.r<wB.heap.size:=by omega
 clear hR1 hG1
 have hr:=HR.out
 by_cases c0:namedB C.l i=true
 ·rw[if_pos c0] at hr
  by_cases c1:comesB C.l (i+1) ⟨#[91]⟩=true
  ·rw[if_pos c1] at hr
   cases hxa:rd C n (.row 0) (i+2) with
   |none=>rw[hxa] at hr;cases hr
   |some ya=>
    rw[hxa] at hr
    have hSa:=fun W a=>HX.out (i+2) W ya hxa a
    clear hxa
    cases ya with
    |no p=>
     obtain rfl:Res.no p=r:=by simpa only [andThen,Option.some.injEq] using hr
     have hSa:=fun W a=>zE (hSa W a)
     clear hr HX HBL HR
     go_wp2_with (first|(go_at_call 121;with_reducible refine(named_yes C i _ S0.rd c0).mono ?_;rintro e w1 ⟨rfl,hR1,hG1⟩;have S1:=S0.call hR1 hG1)|(go_at_call 81;with_reducible refine(name_yes C i _ S1.rd c0).mono ?_;rintro e w2 ⟨rfl,hR2,hG2⟩;have S2:=S1.call hR2 hG2;have zc2:=S2.six.c1;have zf2:=S2.six.f1;have yc2:=S2.six.c2;have yf2:=S2.six.f2)|(go_at_call 79;with_reducible refine(skip_yes C (i+1) ⟨#[91]⟩ _ ((S2.setKind 2).setName (textAt C.l i)).rd c1).mono ?_;rintro e w3 ⟨rfl,hR3,hG3⟩;have S3:=((S2.setKind 2).setName (textAt C.l i)).call hR3 hG3;have zc3:=S3.six.c1;have zf3:=S3.six.f1;have yc3:=S3.six.c2;have yf3:=S3.six.f2)|(go_at_call 157;with_reducible refine(hSa _ (S3.setKind 3).rd).mono ?_;rintro e w4 ⟨ch,rfl,hF⟩))
     exact⟨rfl,_,rfl,hF.later (S3.setKind 3).grew⟩
    |ok tsa ja=>
     have hSa:=fun W a=>zz (hSa W a)
     simp only[andThen] at hr
     by_cases c2:comesB C.l ja ⟨#[93]⟩=true
     ·simp only[wantR,if_pos c2,andThen] at hr
      by_cases c3:comesB C.l (ja+1) ⟨#[58,61]⟩=true
      ·simp only[wantR,if_pos c3,andThen] at hr
       cases hxb:rd C n (.row 0) (ja+1+1) with
       |none=>rw[hxb] at hr;cases hr
       |some yb=>
        rw[hxb] at hr
        have hSb:=fun W a=>HX.out (ja+1+1) W yb hxb a
        clear hxb
        cases yb with
        |no p=>
         obtain rfl:Res.no p=r:=by simpa only [andThen,Option.some.injEq] using hr
         have hSb:=fun W a=>zE (hSb W a)
         clear hr HX HBL HR
         go_wp2_with (first|(go_at_call 121;with_reducible refine(named_yes C i _ S0.rd c0).mono ?_;rintro e w1 ⟨rfl,hR1,hG1⟩;have S1:=S0.call hR1 hG1)|(go_at_call 81;with_reducible refine(name_yes C i _ S1.rd c0).mono ?_;rintro e w2 ⟨rfl,hR2,hG2⟩;have S2:=S1.call hR2 hG2;have zc2:=S2.six.c1;have zf2:=S2.six.f1;have yc2:=S2.six.c2;have yf2:=S2.six.f2)|(go_at_call 79;with_reducible refine(skip_yes C (i+1) ⟨#[91]⟩ _ ((S2.setKind 2).setName (textAt C.l i)).rd c1).mono ?_;rintro e w3 ⟨rfl,hR3,hG3⟩;have S3:=((S2.setKind 2).setName (textAt C.l i)).call hR3 hG3;have zc3:=S3.six.c1;have zf3:=S3.six.f1;have yc3:=S3.six.c2;have yf3:=S3.six.f2)|(go_at_call 157;with_reducible refine(hSa _ (S3.setKind 3).rd).mono ?_;rintro e w4 ⟨t4,p4,ht4,rfl,hT4,hR4,hG4⟩;have S4:=(S3.setKind 3).call hR4 hG4;subst ht4)|(at_builtin;refine zh _ rfl (.tmp 18) (.tmp 21) 87 rfl wB.heap.size 89 ti _ 1 8 Tryz.underlying87 hi hz0 hz1 hz2 rfl (by decide) _ 0 [] rfl (World.ownsRow_nil _ _ _ _) ⟨w4.heap.size,0,none⟩ 1 1 [ptrV p4] rfl rfl (new1 w4 p4) (yT [p4]) (by simp[maxLen]) (by simp) (by have:=S4.big;simp;omega) ?_;intro v5 w5 hown5 hgrow5 hv5;have S5:=(S4.alloc (Obj.cells #[Value.pointer (some ⟨p4,0,none⟩)] 89)).grown hgrow5 (fun k hk=>(zm k hk).elim);have K5:=KidsOwn.append (C:=C) (w0:=wB) (w:=w4) (v:=(Value.slice none 0 0)) (ks:=[]) (ps:=([]:List Nat)) (qs:=[p4]) (ts:=[t4]) rfl (fun j t hj=>by simp at hj) rfl (yD (w2:=wB) hT4 (S3.setKind 3).big (fun k hk=>(zm k hk).elim)) (o:=(Obj.cells #[Value.pointer (some ⟨p4,0,none⟩)] 89)) hown5 hgrow5 hv5;clear hown5 hgrow5 hv5)|(go_at_call 82;with_reducible refine(want_at C ja ⟨#[93]⟩ _ _ (by simp) S5.rd c2).mono ?_;rintro e w6 ⟨rfl,hR6,hG6⟩;have S6:=S5.call hR6 hG6;have K6:=K5.grew hrB hG6)|(go_at_call 82;with_reducible refine(want_at C (ja+1) ⟨#[58,61]⟩ _ _ (by simp) S6.rd c3).mono ?_;rintro e w7 ⟨rfl,hR7,hG7⟩;have S7:=S6.call hR7 hG7;have K7:=K6.grew hrB hG7)|(go_at_call 157;with_reducible refine(hSb _ S7.rd).mono ?_;rintro e w8 ⟨ch,rfl,hF⟩))
         exact⟨rfl,_,rfl,hF.later S7.grew⟩
        |ok tsb jb=>
         have hSb:=fun W a=>zz (hSb W a)
         simp only[andThen] at hr
         by_cases c5:comesB C.l jb ⟨#[59]⟩=true
         ·simp only[wantR,if_pos c5,andThen] at hr
          have HE:=Lib.hid (Option.some.inj hr)
          clear hr HX HBL HR
          go_wp2_with (first|(go_at_call 121;with_reducible refine(named_yes C i _ S0.rd c0).mono ?_;rintro e w1 ⟨rfl,hR1,hG1⟩;have S1:=S0.call hR1 hG1)|(go_at_call 81;with_reducible refine(name_yes C i _ S1.rd c0).mono ?_;rintro e w2 ⟨rfl,hR2,hG2⟩;have S2:=S1.call hR2 hG2;have zc2:=S2.six.c1;have zf2:=S2.six.f1;have yc2:=S2.six.c2;have yf2:=S2.six.f2)|(go_at_call 79;with_reducible refine(skip_yes C (i+1) ⟨#[91]⟩ _ ((S2.setKind 2).setName (textAt C.l i)).rd c1).mono ?_;rintro e w3 ⟨rfl,hR3,hG3⟩;have S3:=((S2.setKind 2).setName (textAt C.l i)).call hR3 hG3;have zc3:=S3.six.c1;have zf3:=S3.six.f1;have yc3:=S3.six.c2;have yf3:=S3.six.f2)|(go_at_call 157;with_reducible refine(hSa _ (S3.setKind 3).rd).mono ?_;rintro e w4 ⟨t4,p4,ht4,rfl,hT4,hR4,hG4⟩;have S4:=(S3.setKind 3).call hR4 hG4;subst ht4)|(at_builtin;refine zh _ rfl (.tmp 18) (.tmp 21) 87 rfl wB.heap.size 89 ti _ 1 8 Tryz.underlying87 hi hz0 hz1 hz2 rfl (by decide) _ 0 [] rfl (World.ownsRow_nil _ _ _ _) ⟨w4.heap.size,0,none⟩ 1 1 [ptrV p4] rfl rfl (new1 w4 p4) (yT [p4]) (by simp[maxLen]) (by simp) (by have:=S4.big;simp;omega) ?_;intro v5 w5 hown5 hgrow5 hv5;have S5:=(S4.alloc (Obj.cells #[Value.pointer (some ⟨p4,0,none⟩)] 89)).grown hgrow5 (fun k hk=>(zm k hk).elim);have K5:=KidsOwn.append (C:=C) (w0:=wB) (w:=w4) (v:=(Value.slice none 0 0)) (ks:=[]) (ps:=([]:List Nat)) (qs:=[p4]) (ts:=[t4]) rfl (fun j t hj=>by simp at hj) rfl (yD (w2:=wB) hT4 (S3.setKind 3).big (fun k hk=>(zm k hk).elim)) (o:=(Obj.cells #[Value.pointer (some ⟨p4,0,none⟩)] 89)) hown5 hgrow5 hv5;clear hown5 hgrow5 hv5)|(go_at_call 82;with_reducible refine(want_at C ja ⟨#[93]⟩ _ _ (by simp) S5.rd c2).mono ?_;rintro e w6 ⟨rfl,hR6,hG6⟩;have S6:=S5.call hR6 hG6;have K6:=K5.grew hrB hG6)|(go_at_call 82;with_reducible refine(want_at C (ja+1) ⟨#[58,61]⟩ _ _ (by simp) S6.rd c3).mono ?_;rintro e w7 ⟨rfl,hR7,hG7⟩;have S7:=S6.call hR7 hG7;have K7:=K6.grew hrB hG7)|(go_at_call 157;with_reducible refine(hSb _ S7.rd).mono ?_;rintro e w8 ⟨t8,p8,ht8,rfl,hT8,hR8,hG8⟩;have S8:=S7.call hR8 hG8;have K8:=K7.grew hrB hG8;subst ht8)|(at_builtin;obtain⟨ps9,hl9,ho9,ht9⟩:=id K8;refine zh _ rfl (.tmp 29) (.tmp 32) 87 rfl wB.heap.size 89 ti _ 1 8 Tryz.underlying87 hi hz0 hz1 hz2 rfl (by decide) _ _ (ps9.map ptrV) rfl (ho9.alloc _) ⟨w8.heap.size,0,none⟩ 1 1 [ptrV p8] rfl rfl (new1 w8 p8) (yT [p8]) (by simp[maxLen]) (by simp) (by have:=S8.big;simp;omega) ?_;intro v9 w9 hown9 hgrow9 hv9;have S9:=(S8.alloc (Obj.cells #[Value.pointer (some ⟨p8,0,none⟩)] 89)).grown hgrow9 (fun k hk=>by have:=K8.row hrB hk;omega);have K9:=KidsOwn.append (C:=C) (w0:=wB) (w:=w8) (v:=_) (ks:=_) (ps:=ps9) (qs:=[p8]) (ts:=[t8]) hl9 ht9 rfl (yD (w2:=wB) hT8 S7.big (fun k hk=>(K7.row hrB hk).2.2)) (o:=(Obj.cells #[Value.pointer (some ⟨p8,0,none⟩)] 89)) hown9 hgrow9 hv9;clear hown9 hgrow9 hv9)|(go_at_call 82;with_reducible refine(want_at C jb ⟨#[59]⟩ _ _ (by simp) S9.rd c5).mono ?_;rintro e w10 ⟨rfl,hR10,hG10⟩;have S10:=S9.call hR10 hG10;have a010:=S10.six.c0;have a110:=S10.six.c1;have a210:=S10.six.c2;have a310:=S10.six.c3;have a410:=S10.six.c4;have a510:=S10.six.c5;have K10:=K9.grew hrB hG10;obtain⟨bb,cc,rfl,hKK⟩:=K10.kids hrB)|(go_at_call 80;with_reducible refine(leaf_any ⟨0,3,textAt C.l i,0,0,placeOf C.l C.e i⟩ _ _ _ _).mono ?_;rintro e wl ⟨rfl,rfl⟩))
          go_ret
          exact stmt_of_tree (post_node (wB:=wB) ⟨0,3,textAt C.l i,0,0,placeOf C.l C.e i⟩ HE.out.symm hKK hwb S10.rd S10.grew)
         ·have c5n:comesB C.l jb ⟨#[59]⟩=false:=by simpa using c5
          simp only[wantR,if_neg c5,andThen,Option.some.injEq] at hr
          subst hr
          clear c5 HX HBL HR
          go_wp2_with (first|(go_at_call 121;with_reducible refine(named_yes C i _ S0.rd c0).mono ?_;rintro e w1 ⟨rfl,hR1,hG1⟩;have S1:=S0.call hR1 hG1)|(go_at_call 81;with_reducible refine(name_yes C i _ S1.rd c0).mono ?_;rintro e w2 ⟨rfl,hR2,hG2⟩;have S2:=S1.call hR2 hG2;have zc2:=S2.six.c1;have zf2:=S2.six.f1;have yc2:=S2.six.c2;have yf2:=S2.six.f2)|(go_at_call 79;with_reducible refine(skip_yes C (i+1) ⟨#[91]⟩ _ ((S2.setKind 2).setName (textAt C.l i)).rd c1).mono ?_;rintro e w3 ⟨rfl,hR3,hG3⟩;have S3:=((S2.setKind 2).setName (textAt C.l i)).call hR3 hG3;have zc3:=S3.six.c1;have zf3:=S3.six.f1;have yc3:=S3.six.c2;have yf3:=S3.six.f2)|(go_at_call 157;with_reducible refine(hSa _ (S3.setKind 3).rd).mono ?_;rintro e w4 ⟨t4,p4,ht4,rfl,hT4,hR4,hG4⟩;have S4:=(S3.setKind 3).call hR4 hG4;subst ht4)|(at_builtin;refine zh _ rfl (.tmp 18) (.tmp 21) 87 rfl wB.heap.size 89 ti _ 1 8 Tryz.underlying87 hi hz0 hz1 hz2 rfl (by decide) _ 0 [] rfl (World.ownsRow_nil _ _ _ _) ⟨w4.heap.size,0,none⟩ 1 1 [ptrV p4] rfl rfl (new1 w4 p4) (yT [p4]) (by simp[maxLen]) (by simp) (by have:=S4.big;simp;omega) ?_;intro v5 w5 hown5 hgrow5 hv5;have S5:=(S4.alloc (Obj.cells #[Value.pointer (some ⟨p4,0,none⟩)] 89)).grown hgrow5 (fun k hk=>(zm k hk).elim);have K5:=KidsOwn.append (C:=C) (w0:=wB) (w:=w4) (v:=(Value.slice none 0 0)) (ks:=[]) (ps:=([]:List Nat)) (qs:=[p4]) (ts:=[t4]) rfl (fun j t hj=>by simp at hj) rfl (yD (w2:=wB) hT4 (S3.setKind 3).big (fun k hk=>(zm k hk).elim)) (o:=(Obj.cells #[Value.pointer (some ⟨p4,0,none⟩)] 89)) hown5 hgrow5 hv5;clear hown5 hgrow5 hv5)|(go_at_call 82;with_reducible refine(want_at C ja ⟨#[93]⟩ _ _ (by simp) S5.rd c2).mono ?_;rintro e w6 ⟨rfl,hR6,hG6⟩;have S6:=S5.call hR6 hG6;have K6:=K5.grew hrB hG6)|(go_at_call 82;with_reducible refine(want_at C (ja+1) ⟨#[58,61]⟩ _ _ (by simp) S6.rd c3).mono ?_;rintro e w7 ⟨rfl,hR7,hG7⟩;have S7:=S6.call hR7 hG7;have K7:=K6.grew hrB hG7)|(go_at_call 157;with_reducible refine(hSb _ S7.rd).mono ?_;rintro e w8 ⟨t8,p8,ht8,rfl,hT8,hR8,hG8⟩;have S8:=S7.call hR8 hG8;have K8:=K7.grew hrB hG8;subst ht8)|(at_builtin;obtain⟨ps9,hl9,ho9,ht9⟩:=id K8;refine zh _ rfl (.tmp 29) (.tmp 32) 87 rfl wB.heap.size 89 ti _ 1 8 Tryz.underlying87 hi hz0 hz1 hz2 rfl (by decide) _ _ (ps9.map ptrV) rfl (ho9.alloc _) ⟨w8.heap.size,0,none⟩ 1 1 [ptrV p8] rfl rfl (new1 w8 p8) (yT [p8]) (by simp[maxLen]) (by simp) (by have:=S8.big;simp;omega) ?_;intro v9 w9 hown9 hgrow9 hv9;have S9:=(S8.alloc (Obj.cells #[Value.pointer (some ⟨p8,0,none⟩)] 89)).grown hgrow9 (fun k hk=>by have:=K8.row hrB hk;omega);have K9:=KidsOwn.append (C:=C) (w0:=wB) (w:=w8) (v:=_) (ks:=_) (ps:=ps9) (qs:=[p8]) (ts:=[t8]) hl9 ht9 rfl (yD (w2:=wB) hT8 S7.big (fun k hk=>(K7.row hrB hk).2.2)) (o:=(Obj.cells #[Value.pointer (some ⟨p8,0,none⟩)] 89)) hown9 hgrow9 hv9;clear hown9 hgrow9 hv9)|(go_at_call 82;with_reducible refine(wantnot_at C jb ⟨#[59]⟩ _ _ (by simp) S9.rd c5n).mono ?_;rintro e w10 ⟨ch,rfl,hF⟩))
          exact⟨rfl,_,rfl,hF.later S9.grew⟩
      ·have c3n:comesB C.l (ja+1) ⟨#[58,61]⟩=false:=by simpa using c3
       simp only[wantR,if_neg c3,andThen,Option.some.injEq] at hr
       subst hr
       clear c3 HX HBL HR
       go_wp2_with (first|(go_at_call 121;with_reducible refine(named_yes C i _ S0.rd c0).mono ?_;rintro e w1 ⟨rfl,hR1,hG1⟩;have S1:=S0.call hR1 hG1)|(go_at_call 81;with_reducible refine(name_yes C i _ S1.rd c0).mono ?_;rintro e w2 ⟨rfl,hR2,hG2⟩;have S2:=S1.call hR2 hG2;have zc2:=S2.six.c1;have zf2:=S2.six.f1;have yc2:=S2.six.c2;have yf2:=S2.six.f2)|(go_at_call 79;with_reducible refine(skip_yes C (i+1) ⟨#[91]⟩ _ ((S2.setKind 2).setName (textAt C.l i)).rd c1).mono ?_;rintro e w3 ⟨rfl,hR3,hG3⟩;have S3:=((S2.setKind 2).setName (textAt C.l i)).call hR3 hG3;have zc3:=S3.six.c1;have zf3:=S3.six.f1;have yc3:=S3.six.c2;have yf3:=S3.six.f2)|(go_at_call 157;with_reducible refine(hSa _ (S3.setKind 3).rd).mono ?_;rintro e w4 ⟨t4,p4,ht4,rfl,hT4,hR4,hG4⟩;have S4:=(S3.setKind 3).call hR4 hG4;subst ht4)|(at_builtin;refine zh _ rfl (.tmp 18) (.tmp 21) 87 rfl wB.heap.size 89 ti _ 1 8 Tryz.underlying87 hi hz0 hz1 hz2 rfl (by decide) _ 0 [] rfl (World.ownsRow_nil _ _ _ _) ⟨w4.heap.size,0,none⟩ 1 1 [ptrV p4] rfl rfl (new1 w4 p4) (yT [p4]) (by simp[maxLen]) (by simp) (by have:=S4.big;simp;omega) ?_;intro v5 w5 hown5 hgrow5 hv5;have S5:=(S4.alloc (Obj.cells #[Value.pointer (some ⟨p4,0,none⟩)] 89)).grown hgrow5 (fun k hk=>(zm k hk).elim);have K5:=KidsOwn.append (C:=C) (w0:=wB) (w:=w4) (v:=(Value.slice none 0 0)) (ks:=[]) (ps:=([]:List Nat)) (qs:=[p4]) (ts:=[t4]) rfl (fun j t hj=>by simp at hj) rfl (yD (w2:=wB) hT4 (S3.setKind 3).big (fun k hk=>(zm k hk).elim)) (o:=(Obj.cells #[Value.pointer (some ⟨p4,0,none⟩)] 89)) hown5 hgrow5 hv5;clear hown5 hgrow5 hv5)|(go_at_call 82;with_reducible refine(want_at C ja ⟨#[93]⟩ _ _ (by simp) S5.rd c2).mono ?_;rintro e w6 ⟨rfl,hR6,hG6⟩;have S6:=S5.call hR6 hG6;have K6:=K5.grew hrB hG6)|(go_at_call 82;with_reducible refine(wantnot_at C (ja+1) ⟨#[58,61]⟩ _ _ (by simp) S6.rd c3n).mono ?_;rintro e w7 ⟨ch,rfl,hF⟩))
       exact⟨rfl,_,rfl,hF.later S6.grew⟩
     ·have c2n:comesB C.l ja ⟨#[93]⟩=false:=by simpa using c2
      simp only[wantR,if_neg c2,andThen,Option.some.injEq] at hr
      subst hr
      clear c2 HX HBL HR
      go_wp2_with (first|(go_at_call 121;with_reducible refine(named_yes C i _ S0.rd c0).mono ?_;rintro e w1 ⟨rfl,hR1,hG1⟩;have S1:=S0.call hR1 hG1)|(go_at_call 81;with_reducible refine(name_yes C i _ S1.rd c0).mono ?_;rintro e w2 ⟨rfl,hR2,hG2⟩;have S2:=S1.call hR2 hG2;have zc2:=S2.six.c1;have zf2:=S2.six.f1;have yc2:=S2.six.c2;have yf2:=S2.six.f2)|(go_at_call 79;with_reducible refine(skip_yes C (i+1) ⟨#[91]⟩ _ ((S2.setKind 2).setName (textAt C.l i)).rd c1).mono ?_;rintro e w3 ⟨rfl,hR3,hG3⟩;have S3:=((S2.setKind 2).setName (textAt C.l i)).call hR3 hG3;have zc3:=S3.six.c1;have zf3:=S3.six.f1;have yc3:=S3.six.c2;have yf3:=S3.six.f2)|(go_at_call 157;with_reducible refine(hSa _ (S3.setKind 3).rd).mono ?_;rintro e w4 ⟨t4,p4,ht4,rfl,hT4,hR4,hG4⟩;have S4:=(S3.setKind 3).call hR4 hG4;subst ht4)|(at_builtin;refine zh _ rfl (.tmp 18) (.tmp 21) 87 rfl wB.heap.size 89 ti _ 1 8 Tryz.underlying87 hi hz0 hz1 hz2 rfl (by decide) _ 0 [] rfl (World.ownsRow_nil _ _ _ _) ⟨w4.heap.size,0,none⟩ 1 1 [ptrV p4] rfl rfl (new1 w4 p4) (yT [p4]) (by simp[maxLen]) (by simp) (by have:=S4.big;simp;omega) ?_;intro v5 w5 hown5 hgrow5 hv5;have S5:=(S4.alloc (Obj.cells #[Value.pointer (some ⟨p4,0,none⟩)] 89)).grown hgrow5 (fun k hk=>(zm k hk).elim);have K5:=KidsOwn.append (C:=C) (w0:=wB) (w:=w4) (v:=(Value.slice none 0 0)) (ks:=[]) (ps:=([]:List Nat)) (qs:=[p4]) (ts:=[t4]) rfl (fun j t hj=>by simp at hj) rfl (yD (w2:=wB) hT4 (S3.setKind 3).big (fun k hk=>(zm k hk).elim)) (o:=(Obj.cells #[Value.pointer (some ⟨p4,0,none⟩)] 89)) hown5 hgrow5 hv5;clear hown5 hgrow5 hv5)|(go_at_call 82;with_reducible refine(wantnot_at C ja ⟨#[93]⟩ _ _ (by simp) S5.rd c2n).mono ?_;rintro e w6 ⟨ch,rfl,hF⟩))
      exact⟨rfl,_,rfl,hF.later S5.grew⟩
  ·rw[if_neg c1] at hr
   have d1:comesB C.l (i+1) ⟨#[91]⟩=false:=by simpa using c1
   clear c1
   by_cases c3:comesB C.l (i+1) ⟨#[58,61]⟩=true
   ·simp only[wantR,if_pos c3,andThen] at hr
    cases hxb:rd C n (.row 0) (i+1+1) with
    |none=>rw[hxb] at hr;cases hr
    |some yb=>
     rw[hxb] at hr
     have hSb:=fun W a=>HX.out (i+1+1) W yb hxb a
     clear hxb
     cases yb with
     |no p=>
      obtain rfl:Res.no p=r:=by simpa only [andThen,Option.some.injEq] using hr
      have hSb:=fun W a=>zE (hSb W a)
      clear hr HX HBL HR
      go_wp2_with (first|(go_at_call 121;with_reducible refine(named_yes C i _ S0.rd c0).mono ?_;rintro e w1 ⟨rfl,hR1,hG1⟩;have S1:=S0.call hR1 hG1)|(go_at_call 81;with_reducible refine(name_yes C i _ S1.rd c0).mono ?_;rintro e w2 ⟨rfl,hR2,hG2⟩;have S2:=S1.call hR2 hG2;have zc2:=S2.six.c1;have zf2:=S2.six.f1;have yc2:=S2.six.c2;have yf2:=S2.six.f2)|(go_at_call 79;with_reducible refine(skip_not C (i+1) ⟨#[91]⟩ _ ((S2.setKind 2).setName (textAt C.l i)).rd d1).mono ?_;rintro e w3 ⟨rfl,hR3,hG3⟩;have S3:=((S2.setKind 2).setName (textAt C.l i)).call hR3 hG3)|(go_at_call 82;with_reducible refine(want_at C (i+1) ⟨#[58,61]⟩ _ _ (by simp) S3.rd c3).mono ?_;rintro e w4 ⟨rfl,hR4,hG4⟩;have S4:=S3.call hR4 hG4)|(go_at_call 157;with_reducible refine(hSb _ S4.rd).mono ?_;rintro e w5 ⟨ch,rfl,hF⟩))
      exact⟨rfl,_,rfl,hF.later S4.grew⟩
     |ok tsb jb=>
      have hSb:=fun W a=>zz (hSb W a)
      simp only[andThen] at hr
      by_cases c5:comesB C.l jb ⟨#[59]⟩=true
      ·simp only[wantR,if_pos c5,andThen] at hr
       have HE:=Lib.hid (Option.some.inj hr)
       clear hr HX HBL HR
       go_wp2_with (first|(go_at_call 121;with_reducible refine(named_yes C i _ S0.rd c0).mono ?_;rintro e w1 ⟨rfl,hR1,hG1⟩;have S1:=S0.call hR1 hG1)|(go_at_call 81;with_reducible refine(name_yes C i _ S1.rd c0).mono ?_;rintro e w2 ⟨rfl,hR2,hG2⟩;have S2:=S1.call hR2 hG2;have zc2:=S2.six.c1;have zf2:=S2.six.f1;have yc2:=S2.six.c2;have yf2:=S2.six.f2)|(go_at_call 79;with_reducible refine(skip_not C (i+1) ⟨#[91]⟩ _ ((S2.setKind 2).setName (textAt C.l i)).rd d1).mono ?_;rintro e w3 ⟨rfl,hR3,hG3⟩;have S3:=((S2.setKind 2).setName (textAt C.l i)).call hR3 hG3)|(go_at_call 82;with_reducible refine(want_at C (i+1) ⟨#[58,61]⟩ _ _ (by simp) S3.rd c3).mono ?_;rintro e w4 ⟨rfl,hR4,hG4⟩;have S4:=S3.call hR4 hG4)|(go_at_call 157;with_reducible refine(hSb _ S4.rd).mono ?_;rintro e w5 ⟨t5,p5,ht5,rfl,hT5,hR5,hG5⟩;have S5:=S4.call hR5 hG5;subst ht5)|(at_builtin;refine zh _ rfl (.tmp 29) (.tmp 32) 87 rfl wB.heap.size 89 ti _ 1 8 Tryz.underlying87 hi hz0 hz1 hz2 rfl (by decide) _ 0 [] rfl (World.ownsRow_nil _ _ _ _) ⟨w5.heap.size,0,none⟩ 1 1 [ptrV p5] rfl rfl (new1 w5 p5) (yT [p5]) (by simp[maxLen]) (by simp) (by have:=S5.big;simp;omega) ?_;intro v6 w6 hown6 hgrow6 hv6;have S6:=(S5.alloc (Obj.cells #[Value.pointer (some ⟨p5,0,none⟩)] 89)).grown hgrow6 (fun k hk=>(zm k hk).elim);have K6:=KidsOwn.append (C:=C) (w0:=wB) (w:=w5) (v:=(Value.slice none 0 0)) (ks:=[]) (ps:=([]:List Nat)) (qs:=[p5]) (ts:=[t5]) rfl (fun j t hj=>by simp at hj) rfl (yD (w2:=wB) hT5 S4.big (fun k hk=>(zm k hk).elim)) (o:=(Obj.cells #[Value.pointer (some ⟨p5,0,none⟩)] 89)) hown6 hgrow6 hv6;clear hown6 hgrow6 hv6)|(go_at_call 82;with_reducible refine(want_at C jb ⟨#[59]⟩ _ _ (by simp) S6.rd c5).mono ?_;rintro e w7 ⟨rfl,hR7,hG7⟩;have S7:=S6.call hR7 hG7;have a07:=S7.six.c0;have a17:=S7.six.c1;have a27:=S7.six.c2;have a37:=S7.six.c3;have a47:=S7.six.c4;have a57:=S7.six.c5;have K7:=K6.grew hrB hG7;obtain⟨bb,cc,rfl,hKK⟩:=K7.kids hrB)|(go_at_call 80;with_reducible refine(leaf_any ⟨0,2,textAt C.l i,0,0,placeOf C.l C.e i⟩ _ _ _ _).mono ?_;rintro e wl ⟨rfl,rfl⟩))
       go_ret
       exact stmt_of_tree (post_node (wB:=wB) ⟨0,2,textAt C.l i,0,0,placeOf C.l C.e i⟩ HE.out.symm hKK hwb S7.rd S7.grew)
      ·have c5n:comesB C.l jb ⟨#[59]⟩=false:=by simpa using c5
       simp only[wantR,if_neg c5,andThen,Option.some.injEq] at hr
       subst hr
       clear c5 HX HBL HR
       go_wp2_with (first|(go_at_call 121;with_reducible refine(named_yes C i _ S0.rd c0).mono ?_;rintro e w1 ⟨rfl,hR1,hG1⟩;have S1:=S0.call hR1 hG1)|(go_at_call 81;with_reducible refine(name_yes C i _ S1.rd c0).mono ?_;rintro e w2 ⟨rfl,hR2,hG2⟩;have S2:=S1.call hR2 hG2;have zc2:=S2.six.c1;have zf2:=S2.six.f1;have yc2:=S2.six.c2;have yf2:=S2.six.f2)|(go_at_call 79;with_reducible refine(skip_not C (i+1) ⟨#[91]⟩ _ ((S2.setKind 2).setName (textAt C.l i)).rd d1).mono ?_;rintro e w3 ⟨rfl,hR3,hG3⟩;have S3:=((S2.setKind 2).setName (textAt C.l i)).call hR3 hG3)|(go_at_call 82;with_reducible refine(want_at C (i+1) ⟨#[58,61]⟩ _ _ (by simp) S3.rd c3).mono ?_;rintro e w4 ⟨rfl,hR4,hG4⟩;have S4:=S3.call hR4 hG4)|(go_at_call 157;with_reducible refine(hSb _ S4.rd).mono ?_;rintro e w5 ⟨t5,p5,ht5,rfl,hT5,hR5,hG5⟩;have S5:=S4.call hR5 hG5;subst ht5)|(at_builtin;refine zh _ rfl (.tmp 29) (.tmp 32) 87 rfl wB.heap.size 89 ti _ 1 8 Tryz.underlying87 hi hz0 hz1 hz2 rfl (by decide) _ 0 [] rfl (World.ownsRow_nil _ _ _ _) ⟨w5.heap.size,0,none⟩ 1 1 [ptrV p5] rfl rfl (new1 w5 p5) (yT [p5]) (by simp[maxLen]) (by simp) (by have:=S5.big;simp;omega) ?_;intro v6 w6 hown6 hgrow6 hv6;have S6:=(S5.alloc (Obj.cells #[Value.pointer (some ⟨p5,0,none⟩)] 89)).grown hgrow6 (fun k hk=>(zm k hk).elim);have K6:=KidsOwn.append (C:=C) (w0:=wB) (w:=w5) (v:=(Value.slice none 0 0)) (ks:=[]) (ps:=([]:List Nat)) (qs:=[p5]) (ts:=[t5]) rfl (fun j t hj=>by simp at hj) rfl (yD (w2:=wB) hT5 S4.big (fun k hk=>(zm k hk).elim)) (o:=(Obj.cells #[Value.pointer (some ⟨p5,0,none⟩)] 89)) hown6 hgrow6 hv6;clear hown6 hgrow6 hv6)|(go_at_call 82;with_reducible refine(wantnot_at C jb ⟨#[59]⟩ _ _ (by simp) S6.rd c5n).mono ?_;rintro e w7 ⟨ch,rfl,hF⟩))
       exact⟨rfl,_,rfl,hF.later S6.grew⟩
   ·have c3n:comesB C.l (i+1) ⟨#[58,61]⟩=false:=by simpa using c3
    simp only[wantR,if_neg c3,andThen,Option.some.injEq] at hr
    subst hr
    clear c3 HX HBL HR
    go_wp2_with (first|(go_at_call 121;with_reducible refine(named_yes C i _ S0.rd c0).mono ?_;rintro e w1 ⟨rfl,hR1,hG1⟩;have S1:=S0.call hR1 hG1)|(go_at_call 81;with_reducible refine(name_yes C i _ S1.rd c0).mono ?_;rintro e w2 ⟨rfl,hR2,hG2⟩;have S2:=S1.call hR2 hG2;have zc2:=S2.six.c1;have zf2:=S2.six.f1;have yc2:=S2.six.c2;have yf2:=S2.six.f2)|(go_at_call 79;with_reducible refine(skip_not C (i+1) ⟨#[91]⟩ _ ((S2.setKind 2).setName (textAt C.l i)).rd d1).mono ?_;rintro e w3 ⟨rfl,hR3,hG3⟩;have S3:=((S2.setKind 2).setName (textAt C.l i)).call hR3 hG3)|(go_at_call 82;with_reducible refine(wantnot_at C (i+1) ⟨#[58,61]⟩ _ _ (by simp) S3.rd c3n).mono ?_;rintro e w4 ⟨ch,rfl,hF⟩))
    exact⟨rfl,_,rfl,hF.later S3.grew⟩
 ·rw[if_neg c0] at hr
  have d0:namedB C.l i=false:=by simpa using c0
  clear c0
  by_cases e1:comesB C.l i ⟨#[105,110,112,117,116]⟩=true
  ·rw[if_pos e1] at hr
   by_cases c7:namedB C.l (i+1)=true
   ·simp only[yx,if_pos c7,andThen] at hr
    by_cases c5:comesB C.l (i+1+1) ⟨#[59]⟩=true
    ·simp only[wantR,if_pos c5,andThen] at hr
     have HE:=Lib.hid (Option.some.inj hr)
     clear hr HX HBL HR
     go_wp2_with (first|(go_at_call 121;with_reducible refine(named_not C i _ S0.rd d0).mono ?_;rintro e w1 ⟨rfl,hR1,hG1⟩;have S1:=S0.call hR1 hG1)|(go_at_call 79;with_reducible refine(skip_yes C i ⟨#[105,110,112,117,116]⟩ _ S1.rd e1).mono ?_;rintro e w2 ⟨rfl,hR2,hG2⟩;have S2:=S1.call hR2 hG2)|(go_at_call 81;with_reducible refine(name_yes C (i+1) _ S2.rd c7).mono ?_;rintro e w3 ⟨rfl,hR3,hG3⟩;have S3:=S2.call hR3 hG3;have zc3:=S3.six.c1;have zf3:=S3.six.f1;have yc3:=S3.six.c2;have yf3:=S3.six.f2)|(go_at_call 82;with_reducible refine(want_at C (i+1+1) ⟨#[59]⟩ _ _ (by simp) ((S3.setKind 4).setName (textAt C.l (i+1))).rd c5).mono ?_;rintro e w4 ⟨rfl,hR4,hG4⟩;have S4:=((S3.setKind 4).setName (textAt C.l (i+1))).call hR4 hG4;have a04:=S4.six.c0;have a14:=S4.six.c1;have a24:=S4.six.c2;have a34:=S4.six.c3;have a44:=S4.six.c4;have a54:=S4.six.c5)|(go_at_call 80;with_reducible refine(leaf_any ⟨0,4,textAt C.l (i+1),0,0,placeOf C.l C.e i⟩ _ _ _ _).mono ?_;rintro e wl ⟨rfl,rfl⟩))
     go_ret
     exact stmt_of_tree (post_node (wB:=wB) ⟨0,4,textAt C.l (i+1),0,0,placeOf C.l C.e i⟩ HE.out.symm (wE _ _ _ _) hwb S4.rd S4.grew)
    ·have c5n:comesB C.l (i+1+1) ⟨#[59]⟩=false:=by simpa using c5
     simp only[wantR,if_neg c5,andThen,Option.some.injEq] at hr
     subst hr
     clear c5 HX HBL HR
     go_wp2_with (first|(go_at_call 121;with_reducible refine(named_not C i _ S0.rd d0).mono ?_;rintro e w1 ⟨rfl,hR1,hG1⟩;have S1:=S0.call hR1 hG1)|(go_at_call 79;with_reducible refine(skip_yes C i ⟨#[105,110,112,117,116]⟩ _ S1.rd e1).mono ?_;rintro e w2 ⟨rfl,hR2,hG2⟩;have S2:=S1.call hR2 hG2)|(go_at_call 81;with_reducible refine(name_yes C (i+1) _ S2.rd c7).mono ?_;rintro e w3 ⟨rfl,hR3,hG3⟩;have S3:=S2.call hR3 hG3;have zc3:=S3.six.c1;have zf3:=S3.six.f1;have yc3:=S3.six.c2;have yf3:=S3.six.f2)|(go_at_call 82;with_reducible refine(wantnot_at C (i+1+1) ⟨#[59]⟩ _ _ (by simp) ((S3.setKind 4).setName (textAt C.l (i+1))).rd c5n).mono ?_;rintro e w4 ⟨ch,rfl,hF⟩))
     exact⟨rfl,_,rfl,hF.later ((S3.setKind 4).setName (textAt C.l (i+1))).grew⟩
   ·have c7n:namedB C.l (i+1)=false:=by simpa using c7
    simp only[yx,if_neg c7,andThen,Option.some.injEq] at hr
    subst hr
    clear c7 HX HBL HR
    go_wp2_with (first|(go_at_call 121;with_reducible refine(named_not C i _ S0.rd d0).mono ?_;rintro e w1 ⟨rfl,hR1,hG1⟩;have S1:=S0.call hR1 hG1)|(go_at_call 79;with_reducible refine(skip_yes C i ⟨#[105,110,112,117,116]⟩ _ S1.rd e1).mono ?_;rintro e w2 ⟨rfl,hR2,hG2⟩;have S2:=S1.call hR2 hG2)|(go_at_call 81;with_reducible refine(name_no C (i+1) _ S2.rd c7n).mono ?_;rintro e w3 ⟨ch,rfl,hF⟩))
    exact⟨rfl,_,rfl,hF.later S2.grew⟩
  ·rw[if_neg e1] at hr
   have d1:comesB C.l i ⟨#[105,110,112,117,116]⟩=false:=by simpa using e1
   clear e1
   by_cases e2:comesB C.l i ⟨#[97,115,115,101,114,116]⟩=true
   ·rw[if_pos e2] at hr
    cases hxa:rd C n (.row 0) (i+1) with
    |none=>rw[hxa] at hr;cases hr
    |some ya=>
     rw[hxa] at hr
     have hSa:=fun W a=>HX.out (i+1) W ya hxa a
     clear hxa
     cases ya with
     |no p=>
      obtain rfl:Res.no p=r:=by simpa only [andThen,Option.some.injEq] using hr
      have hSa:=fun W a=>zE (hSa W a)
      clear hr HX HBL HR
      go_wp2_with (first|(go_at_call 121;with_reducible refine(named_not C i _ S0.rd d0).mono ?_;rintro e w1 ⟨rfl,hR1,hG1⟩;have S1:=S0.call hR1 hG1)|(go_at_call 79;with_reducible refine(skip_not C i ⟨#[105,110,112,117,116]⟩ _ S1.rd d1).mono ?_;rintro e w2 ⟨rfl,hR2,hG2⟩;have S2:=S1.call hR2 hG2)|(go_at_call 79;with_reducible refine(skip_yes C i ⟨#[97,115,115,101,114,116]⟩ _ S2.rd e2).mono ?_;rintro e w3 ⟨rfl,hR3,hG3⟩;have S3:=S2.call hR3 hG3;have zc3:=S3.six.c1;have zf3:=S3.six.f1;have yc3:=S3.six.c2;have yf3:=S3.six.f2)|(go_at_call 157;with_reducible refine(hSa _ (S3.setKind 5).rd).mono ?_;rintro e w4 ⟨ch,rfl,hF⟩))
      exact⟨rfl,_,rfl,hF.later (S3.setKind 5).grew⟩
     |ok tsa ja=>
      have hSa:=fun W a=>zz (hSa W a)
      simp only[andThen] at hr
      by_cases c5:comesB C.l ja ⟨#[59]⟩=true
      ·simp only[wantR,if_pos c5,andThen] at hr
       have HE:=Lib.hid (Option.some.inj hr)
       clear hr HX HBL HR
       go_wp2_with (first|(go_at_call 121;with_reducible refine(named_not C i _ S0.rd d0).mono ?_;rintro e w1 ⟨rfl,hR1,hG1⟩;have S1:=S0.call hR1 hG1)|(go_at_call 79;with_reducible refine(skip_not C i ⟨#[105,110,112,117,116]⟩ _ S1.rd d1).mono ?_;rintro e w2 ⟨rfl,hR2,hG2⟩;have S2:=S1.call hR2 hG2)|(go_at_call 79;with_reducible refine(skip_yes C i ⟨#[97,115,115,101,114,116]⟩ _ S2.rd e2).mono ?_;rintro e w3 ⟨rfl,hR3,hG3⟩;have S3:=S2.call hR3 hG3;have zc3:=S3.six.c1;have zf3:=S3.six.f1;have yc3:=S3.six.c2;have yf3:=S3.six.f2)|(go_at_call 157;with_reducible refine(hSa _ (S3.setKind 5).rd).mono ?_;rintro e w4 ⟨t4,p4,ht4,rfl,hT4,hR4,hG4⟩;have S4:=(S3.setKind 5).call hR4 hG4;subst ht4)|(at_builtin;refine zh _ rfl (.tmp 51) (.tmp 54) 87 rfl wB.heap.size 89 ti _ 1 8 Tryz.underlying87 hi hz0 hz1 hz2 rfl (by decide) _ 0 [] rfl (World.ownsRow_nil _ _ _ _) ⟨w4.heap.size,0,none⟩ 1 1 [ptrV p4] rfl rfl (new1 w4 p4) (yT [p4]) (by simp[maxLen]) (by simp) (by have:=S4.big;simp;omega) ?_;intro v5 w5 hown5 hgrow5 hv5;have S5:=(S4.alloc (Obj.cells #[Value.pointer (some ⟨p4,0,none⟩)] 89)).grown hgrow5 (fun k hk=>(zm k hk).elim);have K5:=KidsOwn.append (C:=C) (w0:=wB) (w:=w4) (v:=(Value.slice none 0 0)) (ks:=[]) (ps:=([]:List Nat)) (qs:=[p4]) (ts:=[t4]) rfl (fun j t hj=>by simp at hj) rfl (yD (w2:=wB) hT4 (S3.setKind 5).big (fun k hk=>(zm k hk).elim)) (o:=(Obj.cells #[Value.pointer (some ⟨p4,0,none⟩)] 89)) hown5 hgrow5 hv5;clear hown5 hgrow5 hv5)|(go_at_call 82;with_reducible refine(want_at C ja ⟨#[59]⟩ _ _ (by simp) S5.rd c5).mono ?_;rintro e w6 ⟨rfl,hR6,hG6⟩;have S6:=S5.call hR6 hG6;have a06:=S6.six.c0;have a16:=S6.six.c1;have a26:=S6.six.c2;have a36:=S6.six.c3;have a46:=S6.six.c4;have a56:=S6.six.c5;have K6:=K5.grew hrB hG6;obtain⟨bb,cc,rfl,hKK⟩:=K6.kids hrB)|(go_at_call 80;with_reducible refine(leaf_any ⟨0,5,⟨#[]⟩,0,0,placeOf C.l C.e i⟩ _ _ _ _).mono ?_;rintro e wl ⟨rfl,rfl⟩))
       go_ret
       exact stmt_of_tree (post_node (wB:=wB) ⟨0,5,⟨#[]⟩,0,0,placeOf C.l C.e i⟩ HE.out.symm hKK hwb S6.rd S6.grew)
      ·have c5n:comesB C.l ja ⟨#[59]⟩=false:=by simpa using c5
       simp only[wantR,if_neg c5,andThen,Option.some.injEq] at hr
       subst hr
       clear c5 HX HBL HR
       go_wp2_with (first|(go_at_call 121;with_reducible refine(named_not C i _ S0.rd d0).mono ?_;rintro e w1 ⟨rfl,hR1,hG1⟩;have S1:=S0.call hR1 hG1)|(go_at_call 79;with_reducible refine(skip_not C i ⟨#[105,110,112,117,116]⟩ _ S1.rd d1).mono ?_;rintro e w2 ⟨rfl,hR2,hG2⟩;have S2:=S1.call hR2 hG2)|(go_at_call 79;with_reducible refine(skip_yes C i ⟨#[97,115,115,101,114,116]⟩ _ S2.rd e2).mono ?_;rintro e w3 ⟨rfl,hR3,hG3⟩;have S3:=S2.call hR3 hG3;have zc3:=S3.six.c1;have zf3:=S3.six.f1;have yc3:=S3.six.c2;have yf3:=S3.six.f2)|(go_at_call 157;with_reducible refine(hSa _ (S3.setKind 5).rd).mono ?_;rintro e w4 ⟨t4,p4,ht4,rfl,hT4,hR4,hG4⟩;have S4:=(S3.setKind 5).call hR4 hG4;subst ht4)|(at_builtin;refine zh _ rfl (.tmp 51) (.tmp 54) 87 rfl wB.heap.size 89 ti _ 1 8 Tryz.underlying87 hi hz0 hz1 hz2 rfl (by decide) _ 0 [] rfl (World.ownsRow_nil _ _ _ _) ⟨w4.heap.size,0,none⟩ 1 1 [ptrV p4] rfl rfl (new1 w4 p4) (yT [p4]) (by simp[maxLen]) (by simp) (by have:=S4.big;simp;omega) ?_;intro v5 w5 hown5 hgrow5 hv5;have S5:=(S4.alloc (Obj.cells #[Value.pointer (some ⟨p4,0,none⟩)] 89)).grown hgrow5 (fun k hk=>(zm k hk).elim);have K5:=KidsOwn.append (C:=C) (w0:=wB) (w:=w4) (v:=(Value.slice none 0 0)) (ks:=[]) (ps:=([]:List Nat)) (qs:=[p4]) (ts:=[t4]) rfl (fun j t hj=>by simp at hj) rfl (yD (w2:=wB) hT4 (S3.setKind 5).big (fun k hk=>(zm k hk).elim)) (o:=(Obj.cells #[Value.pointer (some ⟨p4,0,none⟩)] 89)) hown5 hgrow5 hv5;clear hown5 hgrow5 hv5)|(go_at_call 82;with_reducible refine(wantnot_at C ja ⟨#[59]⟩ _ _ (by simp) S5.rd c5n).mono ?_;rintro e w6 ⟨ch,rfl,hF⟩))
       exact⟨rfl,_,rfl,hF.later S5.grew⟩
   ·rw[if_neg e2] at hr
    have d2:comesB C.l i ⟨#[97,115,115,101,114,116]⟩=false:=by simpa using e2
    clear e2
    by_cases e3:comesB C.l i ⟨#[115,107,105,112]⟩=true
    ·rw[if_pos e3] at hr
     by_cases c5:comesB C.l (i+1) ⟨#[59]⟩=true
     ·simp only[wantR,if_pos c5,andThen] at hr
      have HE:=Lib.hid (Option.some.inj hr)
      clear hr HX HBL HR
      go_wp2_with (first|(go_at_call 121;with_reducible refine(named_not C i _ S0.rd d0).mono ?_;rintro e w1 ⟨rfl,hR1,hG1⟩;have S1:=S0.call hR1 hG1)|(go_at_call 79;with_reducible refine(skip_not C i ⟨#[105,110,112,117,116]⟩ _ S1.rd d1).mono ?_;rintro e w2 ⟨rfl,hR2,hG2⟩;have S2:=S1.call hR2 hG2)|(go_at_call 79;with_reducible refine(skip_not C i ⟨#[97,115,115,101,114,116]⟩ _ S2.rd d2).mono ?_;rintro e w3 ⟨rfl,hR3,hG3⟩;have S3:=S2.call hR3 hG3)|(go_at_call 79;with_reducible refine(skip_yes C i ⟨#[115,107,105,112]⟩ _ S3.rd e3).mono ?_;rintro e w4 ⟨rfl,hR4,hG4⟩;have S4:=S3.call hR4 hG4;have zc4:=S4.six.c1;have zf4:=S4.six.f1;have yc4:=S4.six.c2;have yf4:=S4.six.f2)|(go_at_call 82;with_reducible refine(want_at C (i+1) ⟨#[59]⟩ _ _ (by simp) (S4.setKind 6).rd c5).mono ?_;rintro e w5 ⟨rfl,hR5,hG5⟩;have S5:=(S4.setKind 6).call hR5 hG5;have a05:=S5.six.c0;have a15:=S5.six.c1;have a25:=S5.six.c2;have a35:=S5.six.c3;have a45:=S5.six.c4;have a55:=S5.six.c5)|(go_at_call 80;with_reducible refine(leaf_any ⟨0,6,⟨#[]⟩,0,0,placeOf C.l C.e i⟩ _ _ _ _).mono ?_;rintro e wl ⟨rfl,rfl⟩))
      go_ret
      exact stmt_of_tree (post_node (wB:=wB) ⟨0,6,⟨#[]⟩,0,0,placeOf C.l C.e i⟩ HE.out.symm (wE _ _ _ _) hwb S5.rd S5.grew)
     ·have c5n:comesB C.l (i+1) ⟨#[59]⟩=false:=by simpa using c5
      simp only[wantR,if_neg c5,andThen,Option.some.injEq] at hr
      subst hr
      clear c5 HX HBL HR
      go_wp2_with (first|(go_at_call 121;with_reducible refine(named_not C i _ S0.rd d0).mono ?_;rintro e w1 ⟨rfl,hR1,hG1⟩;have S1:=S0.call hR1 hG1)|(go_at_call 79;with_reducible refine(skip_not C i ⟨#[105,110,112,117,116]⟩ _ S1.rd d1).mono ?_;rintro e w2 ⟨rfl,hR2,hG2⟩;have S2:=S1.call hR2 hG2)|(go_at_call 79;with_reducible refine(skip_not C i ⟨#[97,115,115,101,114,116]⟩ _ S2.rd d2).mono ?_;rintro e w3 ⟨rfl,hR3,hG3⟩;have S3:=S2.call hR3 hG3)|(go_at_call 79;with_reducible refine(skip_yes C i ⟨#[115,107,105,112]⟩ _ S3.rd e3).mono ?_;rintro e w4 ⟨rfl,hR4,hG4⟩;have S4:=S3.call hR4 hG4;have zc4:=S4.six.c1;have zf4:=S4.six.f1;have yc4:=S4.six.c2;have yf4:=S4.six.f2)|(go_at_call 82;with_reducible refine(wantnot_at C (i+1) ⟨#[59]⟩ _ _ (by simp) (S4.setKind 6).rd c5n).mono ?_;rintro e w5 ⟨ch,rfl,hF⟩))
      exact⟨rfl,_,rfl,hF.later (S4.setKind 6).grew⟩
    ·rw[if_neg e3] at hr
     have d3:comesB C.l i ⟨#[115,107,105,112]⟩=false:=by simpa using e3
     clear e3
     by_cases e4:comesB C.l i ⟨#[105,102]⟩=true
     ·rw[if_pos e4] at hr
      cases hxa:rd C n (.row 0) (i+1) with
      |none=>rw[hxa] at hr;cases hr
      |some ya=>
       rw[hxa] at hr
       have hSa:=fun W a=>HX.out (i+1) W ya hxa a
       clear hxa
       cases ya with
       |no p=>
        obtain rfl:Res.no p=r:=by simpa only [andThen,Option.some.injEq] using hr
        have hSa:=fun W a=>zE (hSa W a)
        clear hr HX HBL HR
        go_wp2_with (first|(go_at_call 121;with_reducible refine(named_not C i _ S0.rd d0).mono ?_;rintro e w1 ⟨rfl,hR1,hG1⟩;have S1:=S0.call hR1 hG1)|(go_at_call 79;with_reducible refine(skip_not C i ⟨#[105,110,112,117,116]⟩ _ S1.rd d1).mono ?_;rintro e w2 ⟨rfl,hR2,hG2⟩;have S2:=S1.call hR2 hG2)|(go_at_call 79;with_reducible refine(skip_not C i ⟨#[97,115,115,101,114,116]⟩ _ S2.rd d2).mono ?_;rintro e w3 ⟨rfl,hR3,hG3⟩;have S3:=S2.call hR3 hG3)|(go_at_call 79;with_reducible refine(skip_not C i ⟨#[115,107,105,112]⟩ _ S3.rd d3).mono ?_;rintro e w4 ⟨rfl,hR4,hG4⟩;have S4:=S3.call hR4 hG4)|(go_at_call 79;with_reducible refine(skip_yes C i ⟨#[105,102]⟩ _ S4.rd e4).mono ?_;rintro e w5 ⟨rfl,hR5,hG5⟩;have S5:=S4.call hR5 hG5;have zc5:=S5.six.c1;have zf5:=S5.six.f1;have yc5:=S5.six.c2;have yf5:=S5.six.f2)|(go_at_call 157;with_reducible refine(hSa _ (S5.setKind 7).rd).mono ?_;rintro e w6 ⟨ch,rfl,hF⟩))
        exact⟨rfl,_,rfl,hF.later (S5.setKind 7).grew⟩
       |ok tsa ja=>
        have hSa:=fun W a=>zz (hSa W a)
        simp only[andThen] at hr
        cases hxb:rd C n .block ja with
        |none=>rw[hxb] at hr;cases hr
        |some yb=>
         rw[hxb] at hr
         have hSb:=fun W a=>HBL.out ja W yb hxb a
         clear hxb
         cases yb with
         |no p=>
          obtain rfl:Res.no p=r:=by simpa only [andThen,Option.some.injEq] using hr
          have hSb:=fun W a=>zE (hSb W a)
          clear hr HX HBL HR
          go_wp2_with (first|(go_at_call 121;with_reducible refine(named_not C i _ S0.rd d0).mono ?_;rintro e w1 ⟨rfl,hR1,hG1⟩;have S1:=S0.call hR1 hG1)|(go_at_call 79;with_reducible refine(skip_not C i ⟨#[105,110,112,117,116]⟩ _ S1.rd d1).mono ?_;rintro e w2 ⟨rfl,hR2,hG2⟩;have S2:=S1.call hR2 hG2)|(go_at_call 79;with_reducible refine(skip_not C i ⟨#[97,115,115,101,114,116]⟩ _ S2.rd d2).mono ?_;rintro e w3 ⟨rfl,hR3,hG3⟩;have S3:=S2.call hR3 hG3)|(go_at_call 79;with_reducible refine(skip_not C i ⟨#[115,107,105,112]⟩ _ S3.rd d3).mono ?_;rintro e w4 ⟨rfl,hR4,hG4⟩;have S4:=S3.call hR4 hG4)|(go_at_call 79;with_reducible refine(skip_yes C i ⟨#[105,102]⟩ _ S4.rd e4).mono ?_;rintro e w5 ⟨rfl,hR5,hG5⟩;have S5:=S4.call hR5 hG5;have zc5:=S5.six.c1;have zf5:=S5.six.f1;have yc5:=S5.six.c2;have yf5:=S5.six.f2)|(go_at_call 157;with_reducible refine(hSa _ (S5.setKind 7).rd).mono ?_;rintro e w6 ⟨t6,p6,ht6,rfl,hT6,hR6,hG6⟩;have S6:=(S5.setKind 7).call hR6 hG6;subst ht6)|(go_at_call 158;with_reducible refine(hSb _ S6.rd).mono ?_;rintro e w7 ⟨ch,rfl,hF⟩))
          exact⟨rfl,_,rfl,hF.later S6.grew⟩
         |ok tsb jb=>
          have hSb:=fun W a=>zz (hSb W a)
          simp only[andThen] at hr
          by_cases c8:comesB C.l jb ⟨#[101,108,115,101]⟩=true
          ·rw[if_pos c8] at hr
           cases hxc:rd C n .block (jb+1) with
           |none=>rw[hxc] at hr;cases hr
           |some yc=>
            rw[hxc] at hr
            have hSc:=fun W a=>HBL.out (jb+1) W yc hxc a
            clear hxc
            cases yc with
            |no p=>
             obtain rfl:Res.no p=r:=by simpa only [andThen,Option.some.injEq] using hr
             have hSc:=fun W a=>zE (hSc W a)
             clear hr HX HBL HR
             go_wp2_with (first|(go_at_call 121;with_reducible refine(named_not C i _ S0.rd d0).mono ?_;rintro e w1 ⟨rfl,hR1,hG1⟩;have S1:=S0.call hR1 hG1)|(go_at_call 79;with_reducible refine(skip_not C i ⟨#[105,110,112,117,116]⟩ _ S1.rd d1).mono ?_;rintro e w2 ⟨rfl,hR2,hG2⟩;have S2:=S1.call hR2 hG2)|(go_at_call 79;with_reducible refine(skip_not C i ⟨#[97,115,115,101,114,116]⟩ _ S2.rd d2).mono ?_;rintro e w3 ⟨rfl,hR3,hG3⟩;have S3:=S2.call hR3 hG3)|(go_at_call 79;with_reducible refine(skip_not C i ⟨#[115,107,105,112]⟩ _ S3.rd d3).mono ?_;rintro e w4 ⟨rfl,hR4,hG4⟩;have S4:=S3.call hR4 hG4)|(go_at_call 79;with_reducible refine(skip_yes C i ⟨#[105,102]⟩ _ S4.rd e4).mono ?_;rintro e w5 ⟨rfl,hR5,hG5⟩;have S5:=S4.call hR5 hG5;have zc5:=S5.six.c1;have zf5:=S5.six.f1;have yc5:=S5.six.c2;have yf5:=S5.six.f2)|(go_at_call 157;with_reducible refine(hSa _ (S5.setKind 7).rd).mono ?_;rintro e w6 ⟨t6,p6,ht6,rfl,hT6,hR6,hG6⟩;have S6:=(S5.setKind 7).call hR6 hG6;subst ht6)|(go_at_call 158;with_reducible refine(hSb _ S6.rd).mono ?_;rintro e w7 ⟨t7,p7,ht7,rfl,hT7,hR7,hG7⟩;have S7:=S6.call hR7 hG7;subst ht7)|(at_builtin;refine zh _ rfl (.tmp 70) (.tmp 75) 87 rfl wB.heap.size 89 ti _ 1 8 Tryz.underlying87 hi hz0 hz1 hz2 rfl (by decide) _ 0 [] rfl (World.ownsRow_nil _ _ _ _) ⟨w7.heap.size,0,none⟩ 2 2 [ptrV p6,ptrV p7] rfl rfl (new2 w7 p6 p7) (yT [p6,p7]) (by simp[maxLen]) (by simp) (by have:=S7.big;simp;omega) ?_;intro v8 w8 hown8 hgrow8 hv8;have S8:=(S7.alloc (Obj.cells #[Value.pointer (some ⟨p6,0,none⟩),Value.pointer (some ⟨p7,0,none⟩)] 89)).grown hgrow8 (fun k hk=>(zm k hk).elim);have K8:=KidsOwn.append (C:=C) (w0:=wB) (w:=w7) (v:=(Value.slice none 0 0)) (ks:=[]) (ps:=([]:List Nat)) (qs:=[p6,p7]) (ts:=[t6,t7]) rfl (fun j t hj=>by simp at hj) rfl (ub (hT6.grew hG7) (S5.setKind 7).big (fun k hk=>(zm k hk).elim) hT7 S6.big (fun k hk=>(zm k hk).elim)) (o:=(Obj.cells #[Value.pointer (some ⟨p6,0,none⟩),Value.pointer (some ⟨p7,0,none⟩)] 89)) hown8 hgrow8 hv8;clear hown8 hgrow8 hv8)|(go_at_call 79;with_reducible refine(skip_yes C jb ⟨#[101,108,115,101]⟩ _ S8.rd c8).mono ?_;rintro e w9 ⟨rfl,hR9,hG9⟩;have S9:=S8.call hR9 hG9;have K9:=K8.grew hrB hG9)|(go_at_call 158;with_reducible refine(hSc _ S9.rd).mono ?_;rintro e w10 ⟨ch,rfl,hF⟩))
             exact⟨rfl,_,rfl,hF.later S9.grew⟩
            |ok tsc jc=>
             have hSc:=fun W a=>zz (hSc W a)
             simp only[andThen] at hr
             have HE:=Lib.hid (Option.some.inj hr)
             clear hr HX HBL HR
             go_wp2_with (first|(go_at_call 121;with_reducible refine(named_not C i _ S0.rd d0).mono ?_;rintro e w1 ⟨rfl,hR1,hG1⟩;have S1:=S0.call hR1 hG1)|(go_at_call 79;with_reducible refine(skip_not C i ⟨#[105,110,112,117,116]⟩ _ S1.rd d1).mono ?_;rintro e w2 ⟨rfl,hR2,hG2⟩;have S2:=S1.call hR2 hG2)|(go_at_call 79;with_reducible refine(skip_not C i ⟨#[97,115,115,101,114,116]⟩ _ S2.rd d2).mono ?_;rintro e w3 ⟨rfl,hR3,hG3⟩;have S3:=S2.call hR3 hG3)|(go_at_call 79;with_reducible refine(skip_not C i ⟨#[115,107,105,112]⟩ _ S3.rd d3).mono ?_;rintro e w4 ⟨rfl,hR4,hG4⟩;have S4:=S3.call hR4 hG4)|(go_at_call 79;with_reducible refine(skip_yes C i ⟨#[105,102]⟩ _ S4.rd e4).mono ?_;rintro e w5 ⟨rfl,hR5,hG5⟩;have S5:=S4.call hR5 hG5;have zc5:=S5.six.c1;have zf5:=S5.six.f1;have yc5:=S5.six.c2;have yf5:=S5.six.f2)|(go_at_call 157;with_reducible refine(hSa _ (S5.setKind 7).rd).mono ?_;rintro e w6 ⟨t6,p6,ht6,rfl,hT6,hR6,hG6⟩;have S6:=(S5.setKind 7).call hR6 hG6;subst ht6)|(go_at_call 158;with_reducible refine(hSb _ S6.rd).mono ?_;rintro e w7 ⟨t7,p7,ht7,rfl,hT7,hR7,hG7⟩;have S7:=S6.call hR7 hG7;subst ht7)|(at_builtin;refine zh _ rfl (.tmp 70) (.tmp 75) 87 rfl wB.heap.size 89 ti _ 1 8 Tryz.underlying87 hi hz0 hz1 hz2 rfl (by decide) _ 0 [] rfl (World.ownsRow_nil _ _ _ _) ⟨w7.heap.size,0,none⟩ 2 2 [ptrV p6,ptrV p7] rfl rfl (new2 w7 p6 p7) (yT [p6,p7]) (by simp[maxLen]) (by simp) (by have:=S7.big;simp;omega) ?_;intro v8 w8 hown8 hgrow8 hv8;have S8:=(S7.alloc (Obj.cells #[Value.pointer (some ⟨p6,0,none⟩),Value.pointer (some ⟨p7,0,none⟩)] 89)).grown hgrow8 (fun k hk=>(zm k hk).elim);have K8:=KidsOwn.append (C:=C) (w0:=wB) (w:=w7) (v:=(Value.slice none 0 0)) (ks:=[]) (ps:=([]:List Nat)) (qs:=[p6,p7]) (ts:=[t6,t7]) rfl (fun j t hj=>by simp at hj) rfl (ub (hT6.grew hG7) (S5.setKind 7).big (fun k hk=>(zm k hk).elim) hT7 S6.big (fun k hk=>(zm k hk).elim)) (o:=(Obj.cells #[Value.pointer (some ⟨p6,0,none⟩),Value.pointer (some ⟨p7,0,none⟩)] 89)) hown8 hgrow8 hv8;clear hown8 hgrow8 hv8)|(go_at_call 79;with_reducible refine(skip_yes C jb ⟨#[101,108,115,101]⟩ _ S8.rd c8).mono ?_;rintro e w9 ⟨rfl,hR9,hG9⟩;have S9:=S8.call hR9 hG9;have K9:=K8.grew hrB hG9)|(go_at_call 158;with_reducible refine(hSc _ S9.rd).mono ?_;rintro e w10 ⟨t10,p10,ht10,rfl,hT10,hR10,hG10⟩;have S10:=S9.call hR10 hG10;have K10:=K9.grew hrB hG10;subst ht10)|(at_builtin;obtain⟨ps11,hl11,ho11,ht11⟩:=id K10;refine zh _ rfl (.tmp 79) (.tmp 82) 87 rfl wB.heap.size 89 ti _ 1 8 Tryz.underlying87 hi hz0 hz1 hz2 rfl (by decide) _ _ (ps11.map ptrV) rfl (ho11.alloc _) ⟨w10.heap.size,0,none⟩ 1 1 [ptrV p10] rfl rfl (new1 w10 p10) (yT [p10]) (by simp[maxLen]) (by simp) (by have:=S10.big;simp;omega) ?_;intro v11 w11 hown11 hgrow11 hv11;have S11:=(S10.alloc (Obj.cells #[Value.pointer (some ⟨p10,0,none⟩)] 89)).grown hgrow11 (fun k hk=>by have:=K10.row hrB hk;omega);have K11:=KidsOwn.append (C:=C) (w0:=wB) (w:=w10) (v:=_) (ks:=_) (ps:=ps11) (qs:=[p10]) (ts:=[t10]) hl11 ht11 rfl (yD (w2:=wB) hT10 S9.big (fun k hk=>(K9.row hrB hk).2.2)) (o:=(Obj.cells #[Value.pointer (some ⟨p10,0,none⟩)] 89)) hown11 hgrow11 hv11;clear hown11 hgrow11 hv11;have a011:=S11.six.c0;have a111:=S11.six.c1;have a211:=S11.six.c2;have a311:=S11.six.c3;have a411:=S11.six.c4;have a511:=S11.six.c5;obtain⟨bb,cc,rfl,hKK⟩:=K11.kids hrB)|(go_at_call 80;with_reducible refine(leaf_any ⟨0,7,⟨#[]⟩,0,0,placeOf C.l C.e i⟩ _ _ _ _).mono ?_;rintro e wl ⟨rfl,rfl⟩))
             go_ret
             exact stmt_of_tree (post_node (wB:=wB) ⟨0,7,⟨#[]⟩,0,0,placeOf C.l C.e i⟩ HE.out.symm hKK hwb S11.rd S11.grew)
          ·rw[if_neg c8] at hr
           have d8:comesB C.l jb ⟨#[101,108,115,101]⟩=false:=by simpa using c8
           clear c8
           have HE:=Lib.hid (Option.some.inj hr)
           clear hr HX HBL HR
           go_wp2_with (first|(go_at_call 121;with_reducible refine(named_not C i _ S0.rd d0).mono ?_;rintro e w1 ⟨rfl,hR1,hG1⟩;have S1:=S0.call hR1 hG1)|(go_at_call 79;with_reducible refine(skip_not C i ⟨#[105,110,112,117,116]⟩ _ S1.rd d1).mono ?_;rintro e w2 ⟨rfl,hR2,hG2⟩;have S2:=S1.call hR2 hG2)|(go_at_call 79;with_reducible refine(skip_not C i ⟨#[97,115,115,101,114,116]⟩ _ S2.rd d2).mono ?_;rintro e w3 ⟨rfl,hR3,hG3⟩;have S3:=S2.call hR3 hG3)|(go_at_call 79;with_reducible refine(skip_not C i ⟨#[115,107,105,112]⟩ _ S3.rd d3).mono ?_;rintro e w4 ⟨rfl,hR4,hG4⟩;have S4:=S3.call hR4 hG4)|(go_at_call 79;with_reducible refine(skip_yes C i ⟨#[105,102]⟩ _ S4.rd e4).mono ?_;rintro e w5 ⟨rfl,hR5,hG5⟩;have S5:=S4.call hR5 hG5;have zc5:=S5.six.c1;have zf5:=S5.six.f1;have yc5:=S5.six.c2;have yf5:=S5.six.f2)|(go_at_call 157;with_reducible refine(hSa _ (S5.setKind 7).rd).mono ?_;rintro e w6 ⟨t6,p6,ht6,rfl,hT6,hR6,hG6⟩;have S6:=(S5.setKind 7).call hR6 hG6;subst ht6)|(go_at_call 158;with_reducible refine(hSb _ S6.rd).mono ?_;rintro e w7 ⟨t7,p7,ht7,rfl,hT7,hR7,hG7⟩;have S7:=S6.call hR7 hG7;subst ht7)|(at_builtin;refine zh _ rfl (.tmp 70) (.tmp 75) 87 rfl wB.heap.size 89 ti _ 1 8 Tryz.underlying87 hi hz0 hz1 hz2 rfl (by decide) _ 0 [] rfl (World.ownsRow_nil _ _ _ _) ⟨w7.heap.size,0,none⟩ 2 2 [ptrV p6,ptrV p7] rfl rfl (new2 w7 p6 p7) (yT [p6,p7]) (by simp[maxLen]) (by simp) (by have:=S7.big;simp;omega) ?_;intro v8 w8 hown8 hgrow8 hv8;have S8:=(S7.alloc (Obj.cells #[Value.pointer (some ⟨p6,0,none⟩),Value.pointer (some ⟨p7,0,none⟩)] 89)).grown hgrow8 (fun k hk=>(zm k hk).elim);have K8:=KidsOwn.append (C:=C) (w0:=wB) (w:=w7) (v:=(Value.slice none 0 0)) (ks:=[]) (ps:=([]:List Nat)) (qs:=[p6,p7]) (ts:=[t6,t7]) rfl (fun j t hj=>by simp at hj) rfl (ub (hT6.grew hG7) (S5.setKind 7).big (fun k hk=>(zm k hk).elim) hT7 S6.big (fun k hk=>(zm k hk).elim)) (o:=(Obj.cells #[Value.pointer (some ⟨p6,0,none⟩),Value.pointer (some ⟨p7,0,none⟩)] 89)) hown8 hgrow8 hv8;clear hown8 hgrow8 hv8)|(go_at_call 79;with_reducible refine(skip_not C jb ⟨#[101,108,115,101]⟩ _ S8.rd d8).mono ?_;rintro e w9 ⟨rfl,hR9,hG9⟩;have S9:=S8.call hR9 hG9;have a09:=S9.six.c0;have a19:=S9.six.c1;have a29:=S9.six.c2;have a39:=S9.six.c3;have a49:=S9.six.c4;have a59:=S9.six.c5;have K9:=K8.grew hrB hG9;obtain⟨bb,cc,rfl,hKK⟩:=K9.kids hrB)|(go_at_call 80;with_reducible refine(leaf_any ⟨0,7,⟨#[]⟩,0,0,placeOf C.l C.e i⟩ _ _ _ _).mono ?_;rintro e wl ⟨rfl,rfl⟩))
           go_ret
           exact stmt_of_tree (post_node (wB:=wB) ⟨0,7,⟨#[]⟩,0,0,placeOf C.l C.e i⟩ HE.out.symm hKK hwb S9.rd S9.grew)
     ·rw[if_neg e4] at hr
      have d4:comesB C.l i ⟨#[105,102]⟩=false:=by simpa using e4
      clear e4
      by_cases e5:comesB C.l i ⟨#[119,104,105,108,101]⟩=true
      ·rw[if_pos e5] at hr
       cases hxa:rd C n (.row 0) (i+1) with
       |none=>rw[hxa] at hr;cases hr
       |some ya=>
        rw[hxa] at hr
        have hSa:=fun W a=>HX.out (i+1) W ya hxa a
        clear hxa
        cases ya with
        |no p=>
         obtain rfl:Res.no p=r:=by simpa only [andThen,Option.some.injEq] using hr
         have hSa:=fun W a=>zE (hSa W a)
         clear hr HX HBL HR
         go_wp2_with (first|(go_at_call 121;with_reducible refine(named_not C i _ S0.rd d0).mono ?_;rintro e w1 ⟨rfl,hR1,hG1⟩;have S1:=S0.call hR1 hG1)|(go_at_call 79;with_reducible refine(skip_not C i ⟨#[105,110,112,117,116]⟩ _ S1.rd d1).mono ?_;rintro e w2 ⟨rfl,hR2,hG2⟩;have S2:=S1.call hR2 hG2)|(go_at_call 79;with_reducible refine(skip_not C i ⟨#[97,115,115,101,114,116]⟩ _ S2.rd d2).mono ?_;rintro e w3 ⟨rfl,hR3,hG3⟩;have S3:=S2.call hR3 hG3)|(go_at_call 79;with_reducible refine(skip_not C i ⟨#[115,107,105,112]⟩ _ S3.rd d3).mono ?_;rintro e w4 ⟨rfl,hR4,hG4⟩;have S4:=S3.call hR4 hG4)|(go_at_call 79;with_reducible refine(skip_not C i ⟨#[105,102]⟩ _ S4.rd d4).mono ?_;rintro e w5 ⟨rfl,hR5,hG5⟩;have S5:=S4.call hR5 hG5)|(go_at_call 79;with_reducible refine(skip_yes C i ⟨#[119,104,105,108,101]⟩ _ S5.rd e5).mono ?_;rintro e w6 ⟨rfl,hR6,hG6⟩;have S6:=S5.call hR6 hG6;have zc6:=S6.six.c1;have zf6:=S6.six.f1;have yc6:=S6.six.c2;have yf6:=S6.six.f2)|(go_at_call 157;with_reducible refine(hSa _ (S6.setKind 8).rd).mono ?_;rintro e w7 ⟨ch,rfl,hF⟩))
         exact⟨rfl,_,rfl,hF.later (S6.setKind 8).grew⟩
        |ok tsa ja=>
         have hSa:=fun W a=>zz (hSa W a)
         simp only[andThen] at hr
         cases hxb:rd C n .block ja with
         |none=>rw[hxb] at hr;cases hr
         |some yb=>
          rw[hxb] at hr
          have hSb:=fun W a=>HBL.out ja W yb hxb a
          clear hxb
          cases yb with
          |no p=>
           obtain rfl:Res.no p=r:=by simpa only [andThen,Option.some.injEq] using hr
           have hSb:=fun W a=>zE (hSb W a)
           clear hr HX HBL HR
           go_wp2_with (first|(go_at_call 121;with_reducible refine(named_not C i _ S0.rd d0).mono ?_;rintro e w1 ⟨rfl,hR1,hG1⟩;have S1:=S0.call hR1 hG1)|(go_at_call 79;with_reducible refine(skip_not C i ⟨#[105,110,112,117,116]⟩ _ S1.rd d1).mono ?_;rintro e w2 ⟨rfl,hR2,hG2⟩;have S2:=S1.call hR2 hG2)|(go_at_call 79;with_reducible refine(skip_not C i ⟨#[97,115,115,101,114,116]⟩ _ S2.rd d2).mono ?_;rintro e w3 ⟨rfl,hR3,hG3⟩;have S3:=S2.call hR3 hG3)|(go_at_call 79;with_reducible refine(skip_not C i ⟨#[115,107,105,112]⟩ _ S3.rd d3).mono ?_;rintro e w4 ⟨rfl,hR4,hG4⟩;have S4:=S3.call hR4 hG4)|(go_at_call 79;with_reducible refine(skip_not C i ⟨#[105,102]⟩ _ S4.rd d4).mono ?_;rintro e w5 ⟨rfl,hR5,hG5⟩;have S5:=S4.call hR5 hG5)|(go_at_call 79;with_reducible refine(skip_yes C i ⟨#[119,104,105,108,101]⟩ _ S5.rd e5).mono ?_;rintro e w6 ⟨rfl,hR6,hG6⟩;have S6:=S5.call hR6 hG6;have zc6:=S6.six.c1;have zf6:=S6.six.f1;have yc6:=S6.six.c2;have yf6:=S6.six.f2)|(go_at_call 157;with_reducible refine(hSa _ (S6.setKind 8).rd).mono ?_;rintro e w7 ⟨t7,p7,ht7,rfl,hT7,hR7,hG7⟩;have S7:=(S6.setKind 8).call hR7 hG7;subst ht7)|(go_at_call 158;with_reducible refine(hSb _ S7.rd).mono ?_;rintro e w8 ⟨ch,rfl,hF⟩))
           exact⟨rfl,_,rfl,hF.later S7.grew⟩
          |ok tsb jb=>
           have hSb:=fun W a=>zz (hSb W a)
           simp only[andThen] at hr
           have HE:=Lib.hid (Option.some.inj hr)
           clear hr HX HBL HR
           go_wp2_with (first|(go_at_call 121;with_reducible refine(named_not C i _ S0.rd d0).mono ?_;rintro e w1 ⟨rfl,hR1,hG1⟩;have S1:=S0.call hR1 hG1)|(go_at_call 79;with_reducible refine(skip_not C i ⟨#[105,110,112,117,116]⟩ _ S1.rd d1).mono ?_;rintro e w2 ⟨rfl,hR2,hG2⟩;have S2:=S1.call hR2 hG2)|(go_at_call 79;with_reducible refine(skip_not C i ⟨#[97,115,115,101,114,116]⟩ _ S2.rd d2).mono ?_;rintro e w3 ⟨rfl,hR3,hG3⟩;have S3:=S2.call hR3 hG3)|(go_at_call 79;with_reducible refine(skip_not C i ⟨#[115,107,105,112]⟩ _ S3.rd d3).mono ?_;rintro e w4 ⟨rfl,hR4,hG4⟩;have S4:=S3.call hR4 hG4)|(go_at_call 79;with_reducible refine(skip_not C i ⟨#[105,102]⟩ _ S4.rd d4).mono ?_;rintro e w5 ⟨rfl,hR5,hG5⟩;have S5:=S4.call hR5 hG5)|(go_at_call 79;with_reducible refine(skip_yes C i ⟨#[119,104,105,108,101]⟩ _ S5.rd e5).mono ?_;rintro e w6 ⟨rfl,hR6,hG6⟩;have S6:=S5.call hR6 hG6;have zc6:=S6.six.c1;have zf6:=S6.six.f1;have yc6:=S6.six.c2;have yf6:=S6.six.f2)|(go_at_call 157;with_reducible refine(hSa _ (S6.setKind 8).rd).mono ?_;rintro e w7 ⟨t7,p7,ht7,rfl,hT7,hR7,hG7⟩;have S7:=(S6.setKind 8).call hR7 hG7;subst ht7)|(go_at_call 158;with_reducible refine(hSb _ S7.rd).mono ?_;rintro e w8 ⟨t8,p8,ht8,rfl,hT8,hR8,hG8⟩;have S8:=S7.call hR8 hG8;subst ht8)|(at_builtin;refine zh _ rfl (.tmp 88) (.tmp 93) 87 rfl wB.heap.size 89 ti _ 1 8 Tryz.underlying87 hi hz0 hz1 hz2 rfl (by decide) _ 0 [] rfl (World.ownsRow_nil _ _ _ _) ⟨w8.heap.size,0,none⟩ 2 2 [ptrV p7,ptrV p8] rfl rfl (new2 w8 p7 p8) (yT [p7,p8]) (by simp[maxLen]) (by simp) (by have:=S8.big;simp;omega) ?_;intro v9 w9 hown9 hgrow9 hv9;have S9:=(S8.alloc (Obj.cells #[Value.pointer (some ⟨p7,0,none⟩),Value.pointer (some ⟨p8,0,none⟩)] 89)).grown hgrow9 (fun k hk=>(zm k hk).elim);have K9:=KidsOwn.append (C:=C) (w0:=wB) (w:=w8) (v:=(Value.slice none 0 0)) (ks:=[]) (ps:=([]:List Nat)) (qs:=[p7,p8]) (ts:=[t7,t8]) rfl (fun j t hj=>by simp at hj) rfl (ub (hT7.grew hG8) (S6.setKind 8).big (fun k hk=>(zm k hk).elim) hT8 S7.big (fun k hk=>(zm k hk).elim)) (o:=(Obj.cells #[Value.pointer (some ⟨p7,0,none⟩),Value.pointer (some ⟨p8,0,none⟩)] 89)) hown9 hgrow9 hv9;clear hown9 hgrow9 hv9;have a09:=S9.six.c0;have a19:=S9.six.c1;have a29:=S9.six.c2;have a39:=S9.six.c3;have a49:=S9.six.c4;have a59:=S9.six.c5;obtain⟨bb,cc,rfl,hKK⟩:=K9.kids hrB)|(go_at_call 80;with_reducible refine(leaf_any ⟨0,8,⟨#[]⟩,0,0,placeOf C.l C.e i⟩ _ _ _ _).mono ?_;rintro e wl ⟨rfl,rfl⟩))
           go_ret
           exact stmt_of_tree (post_node (wB:=wB) ⟨0,8,⟨#[]⟩,0,0,placeOf C.l C.e i⟩ HE.out.symm hKK hwb S9.rd S9.grew)
      ·rw[if_neg e5] at hr
       have d5:comesB C.l i ⟨#[119,104,105,108,101]⟩=false:=by simpa using e5
       clear e5
       have HE:=Lib.hid (Option.some.inj hr)
       clear hr HX HBL HR
       go_wp2_with (first|(go_at_call 121;with_reducible refine(named_not C i _ S0.rd d0).mono ?_;rintro e w1 ⟨rfl,hR1,hG1⟩;have S1:=S0.call hR1 hG1)|(go_at_call 79;with_reducible refine(skip_not C i ⟨#[105,110,112,117,116]⟩ _ S1.rd d1).mono ?_;rintro e w2 ⟨rfl,hR2,hG2⟩;have S2:=S1.call hR2 hG2)|(go_at_call 79;with_reducible refine(skip_not C i ⟨#[97,115,115,101,114,116]⟩ _ S2.rd d2).mono ?_;rintro e w3 ⟨rfl,hR3,hG3⟩;have S3:=S2.call hR3 hG3)|(go_at_call 79;with_reducible refine(skip_not C i ⟨#[115,107,105,112]⟩ _ S3.rd d3).mono ?_;rintro e w4 ⟨rfl,hR4,hG4⟩;have S4:=S3.call hR4 hG4)|(go_at_call 79;with_reducible refine(skip_not C i ⟨#[105,102]⟩ _ S4.rd d4).mono ?_;rintro e w5 ⟨rfl,hR5,hG5⟩;have S5:=S4.call hR5 hG5)|(go_at_call 79;with_reducible refine(skip_not C i ⟨#[119,104,105,108,101]⟩ _ S5.rd d5).mono ?_;rintro e w6 ⟨rfl,hR6,hG6⟩;have S6:=S5.call hR6 hG6))
       go_ret
       exact⟨[],i,HE.out.symm, .inl ⟨rfl,rfl⟩,S6.rd,S6.grew⟩
end Go.Proofs.YtonmcakdofbjiaaGreatDoor
