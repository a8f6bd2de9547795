/- A part. -/
import Derived.Test.YtonmcakdofbjiaaGreatDoorM21
set_option linter.all false
set_option maxRecDepth 100000
set_option maxHeartbeats 8000000
namespace Go.Proofs.YtonmcakdofbjiaaGreatDoor
open Go.RowKit
theorem zbX{o:Int}(h:1<=o/\o<=15):1<=(opName o).size/\(opName o).size<=2:=by
 have:o=1\/o=2\/o=3\/o=4\/o=5\/o=6\/o=7\/o=8\/o=9\/o=10\/o=11\/o=12\/o=13\/o=14\/o=15:=by omega
 rcases this with rfl|rfl|rfl|rfl|rfl|rfl|rfl|rfl|rfl|rfl|rfl|rfl|rfl|rfl|rfl<;>decide
theorem mid_un(C:WCx)(at_ u:Nat)(T:ByteArray)(pl:List Int)(w:World)(h:Wr C w at_ u T pl)(x:Nat)(d a:Int)(o:Nat)(e:Tr)(hx:NdAt w x ⟨d,14,za,0,o,a⟩)(ho:o=1\/o=2)(IH:yS C e)(rest:List Nd)(hdr:C.ns.drop at_=flatT (.mk ⟨d,14,za,0,o,a⟩ [e]) d++rest)(hu:u+8*(flatT e (d+1)).length<=799996)(hT:T.size+208*(flatT e (d+1)).length<=799900)(k:Nat)(F:Nat->Value)(f0:F 0= .pointer (some ⟨C.r,0,none⟩))(f4:F 4= .pointer (some ⟨x,0,none⟩))(Q:Exit->Act->World->Prop)
 (HQ:Hid (MidQ C F w (EP C at_ u T pl k (.mk ⟨d,14,za,0,o,a⟩ [e]) d 1) Q)):(seqL xq1).wp Tryz.prog Q (frN 130 F) w:=by
 have H:=Lib.hid h;have HI:=Lib.hid IH;have HO:=Lib.hid ho;have hn4:=xz h.kin (C.names o (by omega))
 obtain⟨_,x1,_,_,x4,_⟩:=hx.cells
 dsimp only at x1 x4
 have hds:=zbX (o:=(o:Int)) (by omega)
 have hroom:=zU hdr (by simp[flatT])
 have hfl:flatT (.mk ⟨d,14,za,0,o,a⟩ [e]) d=⟨d,14,za,0,o,a⟩::flatT e (d+1):=by simp[flatT,flatTs]
 rw[hfl,List.cons_append] at hdr;rw[hfl] at hroom;obtain⟨_,hat,hdr1⟩:=zt hdr
 have HD:=Lib.hid hdr1;generalize hln:(flatT e (d+1)).length=ln at hu hT;have HLN:=Lib.hid hln;have ho0:(0:Int)<=(o:Int):=by omega
 have ho1:(o:Int)<16:=by omega
 clear h hx IH hdr hdr1 hln ho;rw[fr130];simp only[f0,f4];conv=>enter [2];simp only[xq1,xq0,seqL,seqR,Tryz.f105,Option.getD_some]
 go_wp2_with (first|(go_at_call 102;refine WPost.go (zW C at_ u T (opName o) pl _ H.out hat (by omega) (by omega) (by omega)) ?_;rintro w1 ⟨f,hf,hw⟩ hm;have HF:=Lib.hid hf;have H1:=Lib.hid hw;have M1:=Lib.hid hm;have b1:=zg f hf;clear hf hw hm)|(go_at_call 105;refine WPost.go (HI.out 5 (by omega) (d+1) rest (at_+1) (u+1) _ _ _ H1.out HD.out (by have:=HLN.out;omega) (by have:=HLN.out;rw[sz3];omega)) ?_;rintro w3 ⟨l,e',u3,hW,hz,hu3,hw⟩ hm;have HW:=Lib.hid hW;have HZ:=Lib.hid hz;have HU:=Lib.hid hu3;have H3:=Lib.hid hw;have M3:=Lib.hid (M1.out.trans hm);clear hW hz hu3 hw hm));rw[yf 130 _ (by rfl)]
 have hl2:=qr HW.out (d+1);have hz:=HZ.out;have hu3:=HU.out;have hln:=HLN.out;have hpl:=H.out.hl;simp only[List.length_cons] at hroom;have hoo:(o:Int)=1\/(o:Int)=2:=by have:=HO.out;omega
 have e1:(opName (o:Int)).size=1:=by rcases hoo with h|h<;>rw[h]<;>rfl
 refine HQ.out _ _ rfl rfl ⟨(f,opName o)::l,leafT 14 za 0 o ((T.size+f.length:Nat):Int) [e'],u3, .un HF.out hoo (by have:=HW.out;rw[sz3,e1] at this;exact this),?_,?_,?_⟩ M3.out
 ·rw[hfl,zq];simp only[List.length_cons];omega
 ·rw[hfl];simp only[List.length_cons];omega
 ·refine H3.out.cast ?_ ?_ ?_
  ·rw[hfl];simp only[List.length_cons];omega
  ·simp only[zE,zN,List.cons_append,List.nil_append,List.append_assoc]
  ·rw[show((T.size:Int)+(f.length:Int))=(⟨d,14,za,0,(o:Int),((T.size+f.length:Nat):Int)⟩:Nd).at_ from rfl,qp (by omega)]
   simp[flatT,flatTs,leafT]
theorem zbY{d a:Int}{o:Nat}(h:3<=o/\o<=15):lvlI ⟨d,15,za,0,o,a⟩=((rowOf o+1:Nat):Int):=by
 have:o=3\/o=4\/o=5\/o=6\/o=7\/o=8\/o=9\/o=10\/o=11\/o=12\/o=13\/o=14\/o=15:=by omega
 rcases this with rfl|rfl|rfl|rfl|rfl|rfl|rfl|rfl|rfl|rfl|rfl|rfl|rfl<;>rfl
theorem mid_bin(C:WCx)(at_ u:Nat)(T:ByteArray)(pl:List Int)(w:World)(h:Wr C w at_ u T pl)(x:Nat)(d a:Int)(o:Nat)(e y:Tr)(hx:NdAt w x ⟨d,15,za,0,o,a⟩)(hxr:x≠C.r)(hxg:x≠C.g)(ho:3<=o/\o<=15)(IH:yS C e)(IH2:yS C y)(rest:List Nd)(hdr:C.ns.drop at_=flatT (.mk ⟨d,15,za,0,o,a⟩ [e,y]) d++rest)(hu:u+8*((flatT e (d+1)).length+(flatT y (d+1)).length)<=799996)(hT:T.size+208*((flatT e (d+1)).length+(flatT y (d+1)).length)<=799900)(k:Nat)(hk:k<=rowOf o)(F:Nat->Value)(f0:F 0= .pointer (some ⟨C.r,0,none⟩))(f4:F 4= .pointer (some ⟨x,0,none⟩))(Q:Exit->Act->World->Prop)
 (HQ:Hid (MidQ C F w (EP C at_ u T pl k (.mk ⟨d,15,za,0,o,a⟩ [e,y]) d 1) Q)):(seqL xq1).wp Tryz.prog Q (frN 130 F) w:=by
 have H:=Lib.hid h;have HI:=Lib.hid IH;have HI2:=Lib.hid IH2;have HO:=Lib.hid ho;have HN:=Lib.hid (fun w' (m:Kin C.w0 w')=>xz m (C.names o (by omega)))
 have HX:Hid (∀w',Wm C w w'->NdAt w' x ⟨d,15,za,0,o,a⟩):=Lib.hid (fun w' m=>(m.block x (lt_of_block hx) hxr hxg).trans hx);obtain⟨x0,x1,x2,x3,x4,x5⟩:=hx.cells
 dsimp only at x0 x1 x2 x3 x4 x5
 have hds:=zbX (o:=(o:Int)) (by omega)
 have hroom:=zU hdr (by simp[flatT])
 have hfl:flatT (.mk ⟨d,15,za,0,o,a⟩ [e,y]) d=⟨d,15,za,0,o,a⟩::(flatT e (d+1)++flatT y (d+1)):=by simp[flatT,flatTs]
 rw[hfl,List.cons_append] at hdr;rw[hfl] at hroom;obtain⟨_,hat,hdr1⟩:=zt hdr
 rw[List.append_assoc] at hdr1;have hdr2:=xb hdr1;have HD:=Lib.hid hdr1;have HD2:=Lib.hid hdr2;obtain⟨_,d1,_,_,_,_⟩:=h.cells
 have g1:=h.free 1 (by omega)
 generalize hln:(flatT e (d+1)).length=ln at hu hT;generalize hln2:(flatT y (d+1)).length=ln2 at hu hT;have HLN:=Lib.hid hln;have HLN2:=Lib.hid hln2;have ho0:(0:Int)<=(o:Int):=by omega
 have ho1:(o:Int)<16:=by omega
 have hat0:(at_:Int)<=300:=by have:=C.ns2;omega
 have hat1:(0:Int)<=(at_:Int):=by omega
 have hrw:=row_le (o:Int);have HLV:=Lib.hid (zbY (d:=d) (a:=a) ho);have hrx1:¬C.r=x:=fun e=>hxr e.symm;have hrx2:¬x=C.r:=hxr;clear h hx IH IH2 hdr hdr1 hdr2 hln hln2 ho;rw[fr130];simp only[f0,f4];conv=>enter [2];simp only[xq1,xq0,seqL,seqR,Tryz.f105,Option.getD_some]
 by_cases h2:rowOf (o:Int)=2
 ·have hlv:lvlI ⟨d,15,za,0,o,a⟩=3:=by rw[HLV.out,h2];rfl
  have hlf:qa (rowOf (o:Int))=3:=by rw[h2];rfl
  have hr1:rowOf (o:Int)+1=3:=by rw[h2]
  have HLV2:=Lib.hid hlv;have HLF:=Lib.hid hlf;clear hlv hlf;go_wp2_with (first|(go_at_call 137;refine(level_any ⟨d,15,za,0,o,a⟩ _).mono ?_;rintro e1 w1 ⟨rfl,kl⟩;rw[HLV2.out];have H1:=Lib.hid (H.out.next.of_kin kl);have M1:Hid (Wm C w w1):=Lib.hid ((Wm.setR C w _ _).trans (Wm.of_kin kl));clear kl)|(go_at_call 105;refine WPost.go (HI.out 3 (by omega) (d+1) _ (at_+1) u T pl _ H1.out HD.out (by have:=HLN.out;omega) (by have:=HLN.out;omega)) ?_;rintro w2 ⟨l,e',u2,hW,hz,hu2,hw⟩ hm;have HW:=Lib.hid hW;have HZ:=Lib.hid hz;have HU:=Lib.hid hu2;have H2:=Lib.hid hw;have M2:=Lib.hid (M1.out.trans hm);have y4:=(HX.out _ M2.out).cells.2.2.2.2.1;dsimp only at y4;have n4:=HN.out _ hw.kin;clear hW hz hu2 hw hm)|(go_at_call 103;refine WPost.go (zH C _ u2 _ (opName o) _ _ H2.out (by have:=HU.out;have:=HLN.out;omega) (by rw[bytes_size];have:=HZ.out;have:=HLN.out;omega) (by omega)) ?_;rintro w3 ⟨f,hf,hw⟩ hm;have HF:=Lib.hid hf;have H3:=Lib.hid hw;have M3:=Lib.hid (M2.out.trans hm);have b1:=zg f hf;have c2:=hw.cells.2.2.1;have c3:=hw.cells.2.2.2.1;have z4:=(HX.out _ M3.out).cells.2.2.2.2.1;dsimp only at z4;have m4:=HN.out _ hw.kin;have p6:=(hw.pcell at_ hat).1;have p7:=(hw.pcell at_ hat).2;clear hf hw hm));refine wp_region_noPanic ?_;refine wp_region_held_drew (S:=fun w'=>w'.cell? ⟨C.r,3,none⟩=some (.slice (some ⟨C.g,0,none⟩) C.ns.length C.ns.length)/\w'.cell? ⟨C.r,2,none⟩=some (.string (T++zR l++⟨f.toArray⟩++opName o))/\w'.cell? ⟨x,4,none⟩=some (.int .i64 o)/\w'.cell? ⟨4,o,none⟩=some (.string (opName o))) (by kernel_rfl) ⟨c3,c2,z4,m4⟩ (fun hHeld=>?_)
  have hsz:(T++zR l++⟨f.toArray⟩++opName o).size=T.size+szOf l+f.length+(opName o).size:=by rw[sz3,bytes_size]
  have hatl:(at_:Int)<(C.ns.length:Int):=by omega
  have hz0:=HZ.out;have hln0:=HLN.out;have hwr:IntKind.i64.wrap ((T.size:Int)+(szOf l:Int)+(f.length:Int))=(T.size:Int)+(szOf l:Int)+(f.length:Int):=Go.IntWalk.i64_in _ (by omega)
  have hwr2:((T.size:Int)+(szOf l:Int)+(f.length:Int)+((opName (o:Int)).size:Int)-((opName (o:Int)).size:Int))=(T.size:Int)+(szOf l:Int)+(f.length:Int):=by omega
  generalize hTX:T++zR l++⟨f.toArray⟩++opName o=TX at H3 c2 hHeld hsz⊢;refine tk 0 ?_;refine tk 1 ?_;refine tk 2 ?_;refine tk 3 ?_;refine tk 4 ?_;refine tk 5 ?_;refine tk 6 ?_;refine tk 7 ?_;refine tk 8 ?_;refine tk 9 ?_;refine tk 10 ?_;refine tk 11 ?_;refine tk 12 ?_;refine tk 13 ?_;refine tk 14 ?_;refine tk 15 ?_;refine tk 16 ?_;refine wpAnyH_ready (rs:=[17]) (by kernel_rfl) (by simp) ?_
  refine AllReadyH.cons rfl (fun K hK=>?_) AllReadyH.nil;go_simp
  have H4:=Lib.hid ((H3.out.place at_ ((T.size:Int)+(szOf l:Int)+(f.length:Int))).drew1);have M4:Hid (Wm C w ((w3.setCell ⟨C.g,at_,none⟩ (.int .i64 ((T.size:Int)+(szOf l:Int)+(f.length:Int)))).drew)):=Lib.hid (M3.out.trans ((Wm.setG C _ _ _).drew 1));have q4:=(HX.out _ M4.out).cells.2.2.2.2.1;dsimp only at q4
  refine hK.out _ _ ⟨H4.out.cells.2.2.2.1,H4.out.cells.2.2.1,q4,HN.out _ H4.out.kin⟩ (fun _=>?_);refine wpAnyH_done (by kernel_rfl) ?_ _
  refine NoPanic.normal ?_;clear hK K hHeld;generalize hW4:(w3.setCell ⟨C.g,at_,none⟩ (.int .i64 ((T.size:Int)+(szOf l:Int)+(f.length:Int)))).drew=w4 at H4 M4 q4⊢;go_wp2_with (go_at_call 105;refine WPost.go (HI2.out 3 (by omega) (d+1) rest _ (u2+1) _ _ _ H4.out (by have:=HD2.out;exact this) (by have:=HLN2.out;have:=HU.out;omega) (by have:=HLN2.out;omega)) ?_;rintro w5 ⟨m,y',u5,hW,hz,hu5,hw⟩ hm;have HW2:=Lib.hid hW;have HZ2:=Lib.hid hz;have HU2:=Lib.hid hu5;have H5:=Lib.hid hw;have M5:=Lib.hid (M4.out.trans hm);clear hW hz hu5 hw hm);rw[yf 130 _ (by rfl)]
  have hl2:=qr HW.out (d+1);have hl3:=qr HW2.out (d+1);have hz2:=HZ2.out;have hu3:=HU.out;have hu4:=HU2.out;have hln2:=HLN2.out;have hpl:=H.out.hl;simp only[List.length_cons,List.length_append] at hroom;have hoo:=HO.out;refine HQ.out _ _ rfl rfl ⟨l++(f,opName o)::m,leafT 15 za 0 o ((T.size+szOf l+f.length:Nat):Int) [e',y'],u5, .bin HF.out (by omega) hk (by rw[HLF.out];exact HW.out) (by have:=HW2.out;rw[hsz] at this;rw[hr1];exact this),?_,?_,?_⟩ M5.out
  ·rw[hfl,szOf_append,zq];simp only[List.length_cons,List.length_append];omega
  ·rw[hfl];simp only[List.length_cons,List.length_append];omega
  ·refine H5.out.cast ?_ ?_ ?_
   ·rw[hfl];simp only[List.length_cons,List.length_append];omega
   ·rw[<-hTX];simp only[zE,zN,List.cons_append,List.nil_append,List.append_assoc]
   ·rw[show((T.size:Int)+(szOf l:Int)+(f.length:Int))=(⟨d,15,za,0,(o:Int),((T.size+szOf l+f.length:Nat):Int)⟩:Nd).at_ from rfl,zbW (by omega)]
    have epl:=qw (pl:=pl) (at_:=at_) (a:=(⟨d,15,za,0,(o:Int),((T.size+szOf l+f.length:Nat):Int)⟩:Nd)::flatT e' (d+1)) (b:=flatT y' (d+1)) (by simp only[List.length_cons,List.length_append];omega)
    simp only[List.length_cons] at epl;rw[show at_+1+(flatT e (d+1)).length=at_+((flatT e' (d+1)).length+1) from by omega,epl]
    simp[flatT,flatTs,leafT]
 ·have hlv:lvlI ⟨d,15,za,0,o,a⟩=(rowOf (o:Int):Int)+1:=HLV.out;have hlf:qa (rowOf (o:Int))=rowOf (o:Int):=by unfold qa;rw[if_neg h2]
  have hlv3:¬((rowOf (o:Int):Int)+1=3):=by omega
  have HLV2:=Lib.hid hlv;have HLF:=Lib.hid hlf;clear hlv hlf;go_wp2_with (first|(go_at_call 137;refine(level_any ⟨d,15,za,0,o,a⟩ _).mono ?_;rintro e1 w1 ⟨rfl,kl⟩;rw[HLV2.out];have H1:=Lib.hid (H.out.next.of_kin kl);have M1:Hid (Wm C w w1):=Lib.hid ((Wm.setR C w _ _).trans (Wm.of_kin kl));clear kl)|(go_at_call 105;refine WPost.go (HI.out (rowOf (o:Int)) (by omega) (d+1) _ (at_+1) u T pl _ H1.out HD.out (by have:=HLN.out;omega) (by have:=HLN.out;omega)) ?_;rintro w2 ⟨l,e',u2,hW,hz,hu2,hw⟩ hm;have HW:=Lib.hid hW;have HZ:=Lib.hid hz;have HU:=Lib.hid hu2;have H2:=Lib.hid hw;have M2:=Lib.hid (M1.out.trans hm);have y4:=(HX.out _ M2.out).cells.2.2.2.2.1;dsimp only at y4;have n4:=HN.out _ hw.kin;clear hW hz hu2 hw hm)|(go_at_call 103;refine WPost.go (zH C _ u2 _ (opName o) _ _ H2.out (by have:=HU.out;have:=HLN.out;omega) (by rw[bytes_size];have:=HZ.out;have:=HLN.out;omega) (by omega)) ?_;rintro w3 ⟨f,hf,hw⟩ hm;have HF:=Lib.hid hf;have H3:=Lib.hid hw;have M3:=Lib.hid (M2.out.trans hm);have b1:=zg f hf;have c2:=hw.cells.2.2.1;have c3:=hw.cells.2.2.2.1;have z4:=(HX.out _ M3.out).cells.2.2.2.2.1;dsimp only at z4;have m4:=HN.out _ hw.kin;have p6:=(hw.pcell at_ hat).1;have p7:=(hw.pcell at_ hat).2;clear hf hw hm));refine wp_region_noPanic ?_;refine wp_region_held_drew (S:=fun w'=>w'.cell? ⟨C.r,3,none⟩=some (.slice (some ⟨C.g,0,none⟩) C.ns.length C.ns.length)/\w'.cell? ⟨C.r,2,none⟩=some (.string (T++zR l++⟨f.toArray⟩++opName o))/\w'.cell? ⟨x,4,none⟩=some (.int .i64 o)/\w'.cell? ⟨4,o,none⟩=some (.string (opName o))) (by kernel_rfl) ⟨c3,c2,z4,m4⟩ (fun hHeld=>?_)
  have hsz:(T++zR l++⟨f.toArray⟩++opName o).size=T.size+szOf l+f.length+(opName o).size:=by rw[sz3,bytes_size]
  have hatl:(at_:Int)<(C.ns.length:Int):=by omega
  have hz0:=HZ.out;have hln0:=HLN.out;have hwr:IntKind.i64.wrap ((T.size:Int)+(szOf l:Int)+(f.length:Int))=(T.size:Int)+(szOf l:Int)+(f.length:Int):=Go.IntWalk.i64_in _ (by omega)
  have hwr2:((T.size:Int)+(szOf l:Int)+(f.length:Int)+((opName (o:Int)).size:Int)-((opName (o:Int)).size:Int))=(T.size:Int)+(szOf l:Int)+(f.length:Int):=by omega
  generalize hTX:T++zR l++⟨f.toArray⟩++opName o=TX at H3 c2 hHeld hsz⊢;refine tk 0 ?_;refine tk 1 ?_;refine tk 2 ?_;refine tk 3 ?_;refine tk 4 ?_;refine tk 5 ?_;refine tk 6 ?_;refine tk 7 ?_;refine tk 8 ?_;refine tk 9 ?_;refine tk 10 ?_;refine tk 11 ?_;refine tk 12 ?_;refine tk 13 ?_;refine tk 14 ?_;refine tk 15 ?_;refine tk 16 ?_;refine wpAnyH_ready (rs:=[17]) (by kernel_rfl) (by simp) ?_
  refine AllReadyH.cons rfl (fun K hK=>?_) AllReadyH.nil;go_simp
  have H4:=Lib.hid ((H3.out.place at_ ((T.size:Int)+(szOf l:Int)+(f.length:Int))).drew1);have M4:Hid (Wm C w ((w3.setCell ⟨C.g,at_,none⟩ (.int .i64 ((T.size:Int)+(szOf l:Int)+(f.length:Int)))).drew)):=Lib.hid (M3.out.trans ((Wm.setG C _ _ _).drew 1));have q4:=(HX.out _ M4.out).cells.2.2.2.2.1;dsimp only at q4
  refine hK.out _ _ ⟨H4.out.cells.2.2.2.1,H4.out.cells.2.2.1,q4,HN.out _ H4.out.kin⟩ (fun _=>?_);refine wpAnyH_done (by kernel_rfl) ?_ _
  refine NoPanic.normal ?_;clear hK K hHeld;generalize hW4:(w3.setCell ⟨C.g,at_,none⟩ (.int .i64 ((T.size:Int)+(szOf l:Int)+(f.length:Int)))).drew=w4 at H4 M4 q4⊢;go_wp2_with (go_at_call 105;refine WPost.go (HI2.out (rowOf (o:Int)+1) (by omega) (d+1) rest _ (u2+1) _ _ _ H4.out (by have:=HD2.out;exact this) (by have:=HLN2.out;have:=HU.out;omega) (by have:=HLN2.out;omega)) ?_;rintro w5 ⟨m,y',u5,hW,hz,hu5,hw⟩ hm;have HW2:=Lib.hid hW;have HZ2:=Lib.hid hz;have HU2:=Lib.hid hu5;have H5:=Lib.hid hw;have M5:=Lib.hid (M4.out.trans hm);clear hW hz hu5 hw hm);rw[yf 130 _ (by rfl)]
  have hl2:=qr HW.out (d+1);have hl3:=qr HW2.out (d+1);have hz2:=HZ2.out;have hu3:=HU.out;have hu4:=HU2.out;have hln2:=HLN2.out;have hpl:=H.out.hl;simp only[List.length_cons,List.length_append] at hroom;have hoo:=HO.out;refine HQ.out _ _ rfl rfl ⟨l++(f,opName o)::m,leafT 15 za 0 o ((T.size+szOf l+f.length:Nat):Int) [e',y'],u5, .bin HF.out (by omega) hk (by rw[HLF.out];exact HW.out) (by have:=HW2.out;rw[hsz] at this;exact this),?_,?_,?_⟩ M5.out
  ·rw[hfl,szOf_append,zq];simp only[List.length_cons,List.length_append];omega
  ·rw[hfl];simp only[List.length_cons,List.length_append];omega
  ·refine H5.out.cast ?_ ?_ ?_
   ·rw[hfl];simp only[List.length_cons,List.length_append];omega
   ·rw[<-hTX];simp only[zE,zN,List.cons_append,List.nil_append,List.append_assoc]
   ·rw[show((T.size:Int)+(szOf l:Int)+(f.length:Int))=(⟨d,15,za,0,(o:Int),((T.size+szOf l+f.length:Nat):Int)⟩:Nd).at_ from rfl,zbW (by omega)]
    have epl:=qw (pl:=pl) (at_:=at_) (a:=(⟨d,15,za,0,(o:Int),((T.size+szOf l+f.length:Nat):Int)⟩:Nd)::flatT e' (d+1)) (b:=flatT y' (d+1)) (by simp only[List.length_cons,List.length_append];omega)
    simp only[List.length_cons] at epl;rw[show at_+1+(flatT e (d+1)).length=at_+((flatT e' (d+1)).length+1) from by omega,epl]
    simp[flatT,flatTs,leafT]
theorem kid_cases{k h:Int}{us:List Tr}(hk:Kid k h us):(us=[]/\lacks ⟨0,k,h⟩=false)\/∃t ks,us=t::ks/\rholds ⟨0,k,h⟩ (zu t)=true/\Vt t/\Kid k (h+1) ks:=by
 cases hk with
 |done hl=>exact .inl ⟨rfl,hl⟩
 |push hr hf hp hu hk=>exact .inr ⟨_,_,rfl,hr,⟨hf,fun _=>hu,fun e=>absurd hp e⟩,hk⟩
 |leaf hr hf hp hk=>exact .inr ⟨_,_,rfl,hr,⟨hf,fun e=>absurd e hp,fun _=>rfl⟩,hk⟩
theorem uV{k:Int}{us:List Tr}(hk:k=2\/k=5\/k=13\/k=14)(h:Kid k 0 us):∃e,us=[e]/\Vt e/\ze (zu e)=true:=by
 rcases kid_cases h with⟨_,hl⟩|⟨t,ks,rfl,hr,hv,hk2⟩
 ·rcases hk with rfl|rfl|rfl|rfl<;>exact absurd hl (by decide)
 ·rcases kid_cases hk2 with⟨rfl,_⟩|⟨t2,ks2,rfl,hr2,_,_⟩
  ·refine⟨t,rfl,hv,?_⟩;rcases hk with rfl|rfl|rfl|rfl<;>simpa [rholds,rwants] using hr
  ·rcases hk with rfl|rfl|rfl|rfl<;>simp[rholds,rwants] at hr2
theorem kid_e2{k:Int}{us:List Tr}(hk:k=3\/k=15)(h:Kid k 0 us):∃e y,us=[e,y]/\(Vt e/\ze (zu e)=true)/\Vt y/\ze (zu y)=true:=by
 rcases kid_cases h with⟨_,hl⟩|⟨t,ks,rfl,hr,hv,hk2⟩
 ·rcases hk with rfl|rfl<;>exact absurd hl (by decide)
 ·rcases kid_cases hk2 with⟨_,hl⟩|⟨t2,ks2,rfl,hr2,hv2,hk3⟩
  ·rcases hk with rfl|rfl<;>exact absurd hl (by decide)
  ·rcases kid_cases hk3 with⟨rfl,_⟩|⟨t3,ks3,rfl,hr3,_,_⟩
   ·refine⟨t,t2,rfl,⟨hv,?_⟩,hv2,?_⟩
    ·rcases hk with rfl|rfl<;>simpa [rholds,rwants] using hr
    ·rcases hk with rfl|rfl<;>simpa [rholds,rwants] using hr2
   ·rcases hk with rfl|rfl<;>simp[rholds,rwants] at hr3
theorem nm_empty{s:ByteArray}(h:s.toList.isEmpty=true):s=za:=by
 rw[ByteArray.toList_eq] at h;apply ByteArray.ext;apply Array.ext';have:s.data.toList=[]:=by simpa using h
 rw[this];rfl
inductive ENode (C:WCx):Nd->List Tr->Prop
 |num {d X a} (h0:0<=X):ENode C ⟨d,10,za,X,0,a⟩ []
 |bool {d X a} (h:X=0\/X=1):ENode C ⟨d,11,za,X,0,a⟩ []
 |read {d s a} (hs:nameableB s=true):ENode C ⟨d,12,s,0,0,a⟩ []
 |load {d s a e} (hs:nameableB s=true) (hv:Vt e) (he:ze (zu e)=true):ENode C ⟨d,13,s,0,0,a⟩ [e]
 |un {d a e} (o:Nat) (ho:o=1\/o=2) (hv:Vt e) (he:ze (zu e)=true):ENode C ⟨d,14,za,0,o,a⟩ [e]
 |bin {d a e y} (o:Nat) (ho:3<=o/\o<=15) (hv:Vt e) (he:ze (zu e)=true) (hv2:Vt y) (he2:ze (zu y)=true):ENode C ⟨d,15,za,0,o,a⟩ [e,y]
theorem enode(C:WCx){n:Nd}{us:List Tr}(hv:Vt (.mk n us))(he:ze n.kind=true):ENode C n us:=by
 obtain⟨d,kd,nm,X,o,a⟩:=n
 obtain⟨hf,hp,hn⟩:=hv
 dsimp only at hf hp hn he
 have hkd:kd=10\/kd=11\/kd=12\/kd=13\/kd=14\/kd=15:=by
  unfold ze at he;simp only[Bool.and_eq_true,decide_eq_true_eq] at he;omega
 rcases hkd with rfl|rfl|rfl|rfl|rfl|rfl
 ·simp only[fieldsB] at hf;simp only[Bool.and_eq_true,decide_eq_true_eq,show ¬((10:Int)=0\/(10:Int)=2\/(10:Int)=3\/(10:Int)=4\/(10:Int)=12\/(10:Int)=13) from by decide,show ¬((10:Int)=1) from by decide,if_false,if_true] at hf
  obtain⟨⟨h1,h2⟩,rfl⟩:=hf
  obtain rfl:=nm_empty h1;obtain rfl:=hn (by decide)
  exact .num h2
 ·simp only[fieldsB] at hf;simp only[Bool.and_eq_true,Bool.or_eq_true,decide_eq_true_eq,show ¬((11:Int)=0\/(11:Int)=2\/(11:Int)=3\/(11:Int)=4\/(11:Int)=12\/(11:Int)=13) from by decide,show ¬((11:Int)=1) from by decide,show ¬((11:Int)=10) from by decide,if_false,if_true] at hf
  obtain⟨⟨h1,h2⟩,rfl⟩:=hf
  obtain rfl:=nm_empty h1;obtain rfl:=hn (by decide)
  exact .bool h2
 ·simp[fieldsB] at hf;obtain⟨⟨h1,rfl⟩,rfl⟩:=hf
  obtain rfl:=hn (by decide)
  exact .read h1
 ·simp[fieldsB] at hf;obtain⟨⟨h1,rfl⟩,rfl⟩:=hf
  obtain⟨e,rfl,he,hee⟩:=uV (by decide) (hp (by decide))
  exact .load h1 he hee
 ·simp only[fieldsB] at hf;simp only[Bool.and_eq_true,Bool.or_eq_true,decide_eq_true_eq,show ¬((14:Int)=0\/(14:Int)=2\/(14:Int)=3\/(14:Int)=4\/(14:Int)=12\/(14:Int)=13) from by decide,show ¬((14:Int)=1) from by decide,show ¬((14:Int)=10) from by decide,show ¬((14:Int)=11) from by decide,if_false,if_true] at hf
  obtain⟨⟨h1,rfl⟩,h2⟩:=hf
  obtain rfl:=nm_empty h1;obtain⟨e,rfl,he,hee⟩:=uV (by decide) (hp (by decide))
  obtain⟨on,rfl⟩:∃on:Nat,o=on:=⟨o.toNat,by omega⟩
  exact .un on (by omega) he hee
 ·simp only[fieldsB] at hf;simp only[Bool.and_eq_true,decide_eq_true_eq,show ¬((15:Int)=0\/(15:Int)=2\/(15:Int)=3\/(15:Int)=4\/(15:Int)=12\/(15:Int)=13) from by decide,show ¬((15:Int)=1) from by decide,show ¬((15:Int)=10) from by decide,show ¬((15:Int)=11) from by decide,show ¬((15:Int)=14) from by decide,if_false,if_true] at hf
  obtain⟨⟨h1,rfl⟩,h2⟩:=hf
  obtain rfl:=nm_empty h1;obtain⟨e,y,rfl,⟨he,hee⟩,hy,hyy⟩:=kid_e2 (by decide) (hp (by decide))
  obtain⟨on,rfl⟩:∃on:Nat,o=on:=⟨o.toNat,by omega⟩
  exact .bin on (by omega) he hee hy hyy
def dep(t:Tr)(d:Int):Tr:=match t with| .mk n us=> .mk {n with depth:=d} us
theorem zjr{tg:Tg}{i:Nat}{ts ts':List Tr}{l:List Pc}(h:W tg i ts l ts'):∀t (d:Int),ts=[dep t d]->∀k,tg= .e k->W tg i [t] l ts':=by
 induction h with
 |wrap hf hg h ih=>
  intro t d e k hk;exact .wrap hf hg (ih t d e _ rfl)
 |num hf hx=>intro t d e k hk;obtain⟨n,us⟩:=t;simp only[dep,List.cons.injEq,Tr.mk.injEq,Nd.mk.injEq,and_true] at e;obtain⟨⟨-,h1,h2,h3,h4,h5⟩,rfl⟩:=e;obtain⟨d0,a1,a2,a3,a4,a5⟩:=n;dsimp only at h1 h2 h3 h4 h5;subst h1 h2 h3 h4 h5;exact .num hf hx
 |tru hf=>intro t d e k hk;obtain⟨n,us⟩:=t;simp only[dep,List.cons.injEq,Tr.mk.injEq,Nd.mk.injEq,and_true] at e;obtain⟨⟨-,h1,h2,h3,h4,h5⟩,rfl⟩:=e;obtain⟨d0,a1,a2,a3,a4,a5⟩:=n;dsimp only at h1 h2 h3 h4 h5;subst h1 h2 h3 h4 h5;exact .tru hf
 |fls hf=>intro t d e k hk;obtain⟨n,us⟩:=t;simp only[dep,List.cons.injEq,Tr.mk.injEq,Nd.mk.injEq,and_true] at e;obtain⟨⟨-,h1,h2,h3,h4,h5⟩,rfl⟩:=e;obtain⟨d0,a1,a2,a3,a4,a5⟩:=n;dsimp only at h1 h2 h3 h4 h5;subst h1 h2 h3 h4 h5;exact .fls hf
 |read hf hs=>intro t d e k hk;obtain⟨n,us⟩:=t;simp only[dep,List.cons.injEq,Tr.mk.injEq,Nd.mk.injEq,and_true] at e;obtain⟨⟨-,h1,h2,h3,h4,h5⟩,rfl⟩:=e;obtain⟨d0,a1,a2,a3,a4,a5⟩:=n;dsimp only at h1 h2 h3 h4 h5;subst h1 h2 h3 h4 h5;exact .read hf hs
 |load hf hg hh hs he ih=>intro t d e k hk;obtain⟨n,us⟩:=t;simp only[dep,List.cons.injEq,Tr.mk.injEq,Nd.mk.injEq,and_true] at e;obtain⟨⟨-,h1,h2,h3,h4,h5⟩,rfl⟩:=e;obtain⟨d0,a1,a2,a3,a4,a5⟩:=n;dsimp only at h1 h2 h3 h4 h5;subst h1 h2 h3 h4 h5;exact .load hf hg hh hs he
 |un hf ho he ih=>intro t d e k hk;obtain⟨n,us⟩:=t;simp only[dep,List.cons.injEq,Tr.mk.injEq,Nd.mk.injEq,and_true] at e;obtain⟨⟨-,h1,h2,h3,h4,h5⟩,rfl⟩:=e;obtain⟨d0,a1,a2,a3,a4,a5⟩:=n;dsimp only at h1 h2 h3 h4 h5;subst h1 h2 h3 h4 h5;exact .un hf ho he
 |bin hf ho hk hx hy ihx ihy=>intro t d e k hk2;obtain⟨n,us⟩:=t;simp only[dep,List.cons.injEq,Tr.mk.injEq,Nd.mk.injEq,and_true] at e;obtain⟨⟨-,h1,h2,h3,h4,h5⟩,rfl⟩:=e;obtain⟨d0,a1,a2,a3,a4,a5⟩:=n;dsimp only at h1 h2 h3 h4 h5;subst h1 h2 h3 h4 h5;exact .bin hf ho hk hx hy
 |_=>intro t d e k hk;cases hk
theorem flat_dep(t:Tr)(d e:Int):flatT (dep t d) e=flatT t e:=by
 obtain⟨n,us⟩:=t
 simp[dep,flatT]
theorem EP.dep{C:WCx}{at_ u:Nat}{T:ByteArray}{pl:List Int}{k:Nat}{t:Tr}{d:Int}{s:Nat}{w:World}(h:EP C at_ u T pl k (dep t d) d s w):EP C at_ u T pl k t d s w:=by
 obtain⟨l,t',u',h1,h2,h3,h4⟩:=h
 rw[flat_dep] at h2 h3 h4;exact⟨l,t',u',zjr h1 t d rfl _ rfl,h2,h3,h4⟩
theorem zaC(C:WCx)(ht:TabW C.w0)(hnum:∀n∈C.ns,n.num<=9223372036854775807)(n:Nd)(us:List Tr)(hv:Vt (.mk n us))(he:ze n.kind=true)(IH:∀e∈us,Vt e->ze (zu e)=true->yS C e)(d:Int)(rest:List Nd)(at_ u:Nat)(T:ByteArray)(pl:List Int)(w:World)(h:Wr C w at_ u T pl)(hdr:C.ns.drop at_=flatT (.mk n us) d++rest)(x:Nat)(hx:NdAt w x {n with depth:=d})(hxr:x≠C.r)(hxg:x≠C.g)
 (hu:u+8*(flatT (.mk n us) d).length<=800004) (hT:T.size+208*(flatT (.mk n us) d).length<=800100) (k:Nat) (hk:(k:Int)+1<=lvlI n) (F:Nat->Value) (f0:F 0= .pointer (some ⟨C.r,0,none⟩)) (f4:F 4= .pointer (some ⟨x,0,none⟩)) (Q:Exit->Act->World->Prop)
 (HQ:Hid (MidQ C F w (EP C at_ u T pl k (.mk n us) d 1) Q)):(seqL xq1).wp Tryz.prog Q (frN 130 F) w:=by
 have hfl:flatT (.mk n us) d={n with depth:=d}::flatTs us (d+1):=by simp[flatT]
 have hroom:=zU hdr (by rw[hfl];simp)
 have hat:at_<C.ns.length:=by rw[hfl] at hroom;simp only[List.length_cons] at hroom;omega
 have hn0:C.ns[at_]? =some {n with depth:=d}:=by rw[hfl,List.cons_append] at hdr;exact(zt hdr).1
 have hle0:=hnum _ (List.mem_of_getElem? hn0);have hle:n.num<=9223372036854775807:=hle0;rw[hfl] at hu hT;simp only[List.length_cons] at hu hT;have HQ':Hid (MidQ C F w (EP C at_ u T pl k (dep (.mk n us) d) d 1) Q):=Lib.hid (fun F' w' a b c e=>HQ.out F' w' a b c.dep e);have hdr':C.ns.drop at_=flatT (dep (.mk n us) d) d++rest:=by rw[flat_dep];exact hdr
 have one:∀e:Tr,flatTs [e] (d+1)=flatT e (d+1):=fun e=>by simp[flatTs]
 have two:∀e y:Tr,flatTs [e,y] (d+1)=flatT e (d+1)++flatT y (d+1):=fun e y=>by simp[flatTs]
 cases enode C hv he with
 |num h0=>exact zhD C ht at_ u T pl w h x d _ _ hx h0 hle hat (by omega) (by omega) k F f0 f4 Q HQ'
 |bool hX=>exact zfW C at_ u T pl w h x d _ _ hx hX hat (by omega) (by omega) k F f0 f4 Q HQ'
 |read hs=>exact zfU C at_ u T pl w h x d _ _ hx hs hat (by omega) (by omega) k F f0 f4 Q HQ'
 |load hs hve hee=>rw[one] at hu hT;exact zfV C at_ u T pl w h x d _ _ _ hx hs (IH _ (by simp) hve hee) rest hdr' (by omega) (by omega) k F f0 f4 Q HQ'
 |un o ho hve hee=>rw[one] at hu hT;exact mid_un C at_ u T pl w h x d _ o _ hx ho (IH _ (by simp) hve hee) rest hdr' (by omega) (by omega) k F f0 f4 Q HQ'
 |bin o ho hve hee hvy hey=>
  rw[two,List.length_append] at hu hT;refine mid_bin C at_ u T pl w h x d _ o _ _ hx hxr hxg ho (IH _ (by simp) hve hee) (IH _ (by simp) hvy hey) rest hdr' (by omega) (by omega) k ?_ F f0 f4 Q HQ'
  rw[zbY ho] at hk;omega
theorem zaD(C:WCx)(ht:TabW C.w0)(hnum:∀n∈C.ns,n.num<=9223372036854775807):∀(N:Nat) (t:Tr),SizeOf.sizeOf t<=N->Vt t->ze (zu t)=true->yS C t
 |0, .mk n us,hN,_,_=>by simp at hN
 |N+1, .mk n us,hN,hv,he=>by
  intro k hk d rest at_ u T pl w h hdr hu hT;have IH:∀e∈us,Vt e->ze (zu e)=true->yS C e:=fun e hm=>zaD C ht hnum N e (by
   have:=List.sizeOf_lt_of_mem hm
   simp only[Tr.mk.sizeOf_spec] at hN;omega)
  have hfl:flatT (.mk n us) d={n with depth:=d}::flatTs us (d+1):=by simp[flatT]
  have hn:C.ns[at_]? =some {n with depth:=d}:=by rw[hfl,List.cons_append] at hdr;exact(zt hdr).1
  have hlen:1<=(flatT (.mk n us) d).length:=by rw[hfl];simp
  have hpl:=h.hl;have hroom:=zU hdr hlen;refine zem C at_ u T pl w h _ hn (k+1) (by omega) (by omega) (by omega) _ (Lib.hid fun F x w1 f0 f4 hx hxl hm hcase=>?_)
  have hxr:x≠C.r:=by have:=lt_of_block h.hr;omega
  have hxg:x≠C.g:=by have:=lt_of_block h.hg;omega
  have hll:lvlI {n with depth:=d}=lvlI n:=rfl;rw[zio];refine wp_seq ?_;rcases hcase with⟨f,hf,f5,hw⟩|⟨f5,hk2,hw⟩
  ·have b1:=zg f hf;have hsz:(T++⟨f.toArray⟩++sLp).size=T.size+f.length+1:=by rw[sz3];rfl
   have hlv:((0:Nat):Int)+1<=lvlI n:=by
    unfold lvlI
    repeat' split
    all_goals decide
   refine zaC C ht hnum n us hv he IH d rest at_ (u+2) _ pl w1 hw hdr x hx hxr hxg (by omega) (by omega) 0 hlv F f0 f4 _ (Lib.hid fun F' w2 g0 g5 hp hm2=>?_)
   obtain⟨l,t',u',h1,h2,h3,h4⟩:=hp
   have hl2:=qr h1 d;refine u0 C _ u' _ _ w2 h4 F' g0 true (g5.trans f5) (by omega) (by rw[bytes_size];omega) _ (fun _ g hg w3 hw3 hm3=>⟨rfl,⟨(f,sLp)::(l++[(g,sRp)]),t',u'+1, .wrap hf hg (by rw[hsz] at h1;exact h1),?_,by omega,?_⟩,(hm.trans hm2).trans hm3⟩) (fun e=>by cases e)
   ·have:=zg g hg
    rw[zq,szOf_append,zq];have e1:sLp.size=1:=rfl;have e2:sRp.size=1:=rfl;simp only[show szOf []=0 from rfl];omega
   ·refine hw3.cast rfl ?_ rfl;simp only[zE,zN,List.cons_append,List.nil_append,List.append_assoc]
  ·refine zaC C ht hnum n us hv he IH d rest at_ (u+1) _ pl w1 hw hdr x hx hxr hxg (by omega) (by omega) k (by rw[<-hll];have:=hk2;push_cast at this;exact this) F f0 f4 _ (Lib.hid fun F' w2 g0 g5 hp hm2=>?_)
   obtain⟨l,t',u',h1,h2,h3,h4⟩:=hp
   refine u0 C _ u' _ _ w2 h4 F' g0 false (g5.trans f5) (by omega) (by rw[bytes_size];omega) _ (fun e=>by cases e) (fun _=>⟨rfl,⟨l,t',u',h1,by omega,by omega,h4⟩,hm.trans hm2⟩)
theorem zbQ{tg:Tg}{i:Nat}{ts ts':List Tr}{l:List Pc}(h:W tg i ts l ts'):tg= .ss->∀{t t':Tr} {m:List Pc},W .s (i+szOf l) [t] m [t']->W .ss i (ts++[t]) (l++m) (ts'++[t']):=by
 induction h with
 |nil=>intro _ t t' m h2;have:=W.cons (by simpa [szOf,bytesOf] using h2) .nil;simpa using this
 |cons h h2 ih ih2=>
  intro _ t t' m h3;rw[szOf_append,<-Nat.add_assoc] at h3;rw[List.cons_append,List.cons_append,List.append_assoc];exact .cons h (ih2 rfl h3)
 |_=>intro e;cases e
def RestOk(rest:List Nd)(d:Int):Prop:=∀m l,rest=m::l->m.depth<=d
def SP(C:WCx)(at_ u:Nat)(T:ByteArray)(pl:List Int)(tg:Tg)(t:Tr)(d:Int)(w':World):Prop:=
 ∃l t' u',W tg T.size [t] l [t']/\szOf l<=208*(flatT t d).length/\u'<=u+8*(flatT t d).length/\Wr C w' (at_+(flatT t d).length) u' (T++zR l) (plW pl at_ (flatT t' d))
def SOk(f:FuncId)(tg:Tg)(C:WCx)(t:Tr):Prop:=∀(d:Int) (rest:List Nd) (at_ u:Nat) (T:ByteArray) (pl:List Int) (w:World),Wr C w at_ u T pl->C.ns.drop at_=flatT t d++rest->RestOk rest d->0<=d->d+(flatT t d).length<=2000->u+8*(flatT t d).length<=800000->T.size+208*(flatT t d).length<=800000->
 Calls Tryz.prog f #[.pointer (some ⟨C.r,0,none⟩)] w (WPost C w (SP C at_ u T pl tg t d))
theorem qZ(F:Nat->Value):frN 147 F={tmps:=(F 0::F 1::F 2::F 3::F 4::F 5::F 6::F 7::F 8::F 9::F 10::F 11::F 12::F 13::F 14::F 15::F 16::F 17::F 18::F 19::F 20::F 21::F 22::F 23::F 24::F 25::F 26::F 27::F 28::F 29::F 30::F 31::F 32::F 33::F 34::F 35::F 36::F 37::F 38::F 39::F 40::F 41::F 42::F 43::F 44::F 45::F 46::F 47::F 48::F 49::F 50::F 51::F 52::F 53::F 54::F 55::F 56::F 57::F 58::F 59::F 60::F 61::F 62::F 63::F 64::F 65::F 66::F 67::F 68::F 69::F 70::F 71::F 72::F 73::F 74::F 75::F 76::F 77::F 78::F 79::F 80::F 81::F 82::F 83::F 84::F 85::F 86::F 87::F 88::F 89::F 90::F 91::F 92::F 93::F 94::F 95::F 96::F 97::F 98::F 99::F 100::F 101::F 102::F 103::F 104::F 105::F 106::F 107::F 108::F 109::F 110::F 111::F 112::F 113::F 114::F 115::F 116::F 117::F 118::F 119::F 120::F 121::F 122::F 123::F 124::F 125::F 126::F 127::F 128::F 129::F 130::F 131::F 132::F 133::F 134::F 135::F 136::F 137::F 138::F 139::F 140::F 141::F 142::F 143::F 144::F 145::F 146::[]).toArray,defers:=[]}:=rfl
noncomputable def yq0:Code:=Tryz.f57.body.getD .skip
noncomputable def yq1:Code:=seqR yq0
theorem zin:yq0= .seq (seqL yq0) yq1:=rfl
theorem ga(C:WCx)(at_ u:Nat)(T:ByteArray)(pl:List Int)(w:World)(h:Wr C w at_ u T pl)(n:Nd)(hn:C.ns[at_]? =some n)(R:Ending->World->Prop)
 (HQ:Hid (∀(F:Nat->Value) (x:Nat) w1,F 0= .pointer (some ⟨C.r,0,none⟩)->F 2= .pointer (some ⟨x,0,none⟩)->NdAt w1 x n->w.heap.size<=x->Wm C w w1->Wr C w1 at_ u T pl->yq1.wp Tryz.prog (bodyPost Tryz.prog Tryz.f57 R) (frN 147 F) w1)):
 Calls Tryz.prog 57 #[.pointer (some ⟨C.r,0,none⟩)] w R:=by
 have H:=Lib.hid h;have HN:=Lib.hid hn;have hns:=C.ns2;have hlt:at_<C.ns.length:=(List.getElem?_eq_some_iff.1 hn).1;have hat0:(0:Int)<=(at_:Int):=by omega
 have hat1:(at_:Int)<(C.ns.length:Int):=by omega
 obtain⟨gn,off,hnb,hcell⟩:=h.node hn
 obtain⟨d0,d1,_,_,_,_⟩:=h.cells
 obtain⟨nd,nk,nm,nx,no,na⟩:=n
 have e0:=hcell 0 _ rfl;have e1:=hcell 1 _ rfl;have e2:=hcell 2 _ rfl;have e3:=hcell 3 _ rfl;have e4:=hcell 4 _ rfl;have e5:=hcell 5 _ rfl;rw[Nat.add_zero] at e0;rw[hnb] at d0;have hgl:=World.block_lt_of_cell? w _ e0;simp only at hgl
 clear h hn hcell hnb;go_enter Tryz.func57,Tryz.ntmps57;show Code.wp Tryz.prog yq0 _ _ _;rw[zin];generalize yq1=X at HQ⊢;conv=>enter [2];simp only[yq0,seqL,seqR,Tryz.f57,Option.getD_some]
 go_wp2_with fail;refine wp_region_held_drew (S:=fun w'=>w'.cell? ⟨C.r,0,none⟩=some (.slice (some ⟨gn,off,none⟩) C.ns.length C.nc)/\w'.cell? ⟨C.r,1,none⟩=some (.int .i64 at_)/\w'.cell? ⟨gn,off+at_*6,none⟩=some (.int .i64 nd)/\w'.cell? ⟨gn,off+at_*6+1,none⟩=some (.int .i64 nk)/\w'.cell? ⟨gn,off+at_*6+2,none⟩=some (.string nm)/\w'.cell? ⟨gn,off+at_*6+3,none⟩=some (.int .i64 nx)/\w'.cell? ⟨gn,off+at_*6+4,none⟩=some (.int .i64 no)/\w'.cell? ⟨gn,off+at_*6+5,none⟩=some (.int .i64 na)) (by kernel_rfl) ⟨d0,d1,e0,e1,e2,e3,e4,e5⟩ (fun hHeld=>?_)
 refine tk 0 ?_;refine tk 1 ?_;refine tk 2 ?_;refine tk 3 ?_;refine tk 4 ?_;refine tk 5 ?_;refine tk 6 ?_;refine tk 7 ?_;refine tk 8 ?_;refine tk 9 ?_;refine wpAnyH_ready (rs:=[10]) (by kernel_rfl) (by simp) ?_
 refine AllReadyH.cons rfl (fun K hK=>?_) AllReadyH.nil;go_simp
 refine hK.out _ _ ⟨yH d0,yH d1,yH e0,yH e1,yH e2,yH e3,yH e4,yH e5⟩ (fun hHeld2=>?_);clear hK K;try simp only[Act.put,List.setIfInBounds_toArray,List.set_cons_zero,List.set_cons_succ]
 refine wpAnyH_ready (rs:=[11]) (by kernel_rfl) (by simp) ?_
 refine AllReadyH.cons rfl (fun K hK=>?_) AllReadyH.nil;go_simp
 refine hK.out _ _ ⟨yq d0,yq d1,yq e0,yq e1,yq e2,yq e3,yq e4,yq e5⟩ (fun _=>?_);refine wpAnyH_done (by kernel_rfl) ?_ _
 clear hHeld hHeld2 hK K d0 d1 e0 e1 e2 e3 e4 e5 hgl;have H1:=Lib.hid ((H.out.alloc (.cells #[.int .i64 nd, .int .i64 nk, .string nm, .int .i64 nx, .int .i64 no, .int .i64 na] 50)).drew1);have M1:Hid (Wm C w (w.alloc (.cells #[.int .i64 nd, .int .i64 nk, .string nm, .int .i64 nx, .int .i64 no, .int .i64 na] 50)).drew):=Lib.hid (((Wm.refl C w).alloc _).drew 1);have HX:Hid ((w.alloc (.cells #[.int .i64 nd, .int .i64 nk, .string nm, .int .i64 nx, .int .i64 no, .int .i64 na] 50)).drew.heap[w.heap.size]? =some (.cells #[.int .i64 nd, .int .i64 nk, .string nm, .int .i64 nx, .int .i64 no, .int .i64 na] 50 (0,0))):=Lib.hid (heap_alloc_new w _);go_wp2_with fail;rw[yf 147 _ (by rfl)]
 exact HQ.out _ w.heap.size _ rfl rfl HX.out (Nat.le_refl _) M1.out H1.out
theorem vH{pl:List Int}{at_ la:Nat}{n:Nd}{a b:List Nd}(ha:a.length=la)(h:at_+1+la+b.length<=pl.length):plW (plW (pl.set at_ n.at_) (at_+1) a) (at_+1+la) b=plW pl at_ (n::(a++b)):=by
 subst ha;rw[qp (by omega)]
 have:=qw (pl:=pl) (at_:=at_) (a:=n::a) (b:=b) (by simp;omega)
 simp only[List.length_cons] at this;rw[show at_+1+a.length=at_+(a.length+1) from by omega,this]
 rfl
theorem zjz{pl:List Int}{at_ la lb:Nat}{n:Nd}{a b c:List Nd}(ha:a.length=la)(hb:b.length=lb)(h:at_+1+la+lb+c.length<=pl.length):plW (plW (plW (pl.set at_ n.at_) (at_+1) a) (at_+1+la) b) (at_+1+la+lb) c=plW pl at_ (n::(a++(b++c))):=by
 rw[vH ha (by omega)]
 subst ha hb;have:=qw (pl:=pl) (at_:=at_) (a:=n::(a++b)) (b:=c) (by simp;omega)
 simp only[List.length_cons,List.length_append] at this;rw[show at_+1+a.length+b.length=at_+(a.length+b.length+1) from by omega,this]
 simp
theorem yg{tg:Tg}{i:Nat}{t t':Tr}{l:List Pc}(h:W tg i [t] l [t'])(d:Int):(flatT t' d).length=(flatT t d).length:=by
 have:=congrArg List.length (kg h d)
 simpa [noAt,flatTs] using this
theorem zdz(C:WCx)(at_ u:Nat)(T:ByteArray)(pl:List Int)(w:World)(h:Wr C w at_ u T pl)(x:Nat)(d a:Int)(hx:NdAt w x ⟨d,6,za,0,0,a⟩)(hxr:x≠C.r)(hxg:x≠C.g)(rest:List Nd)(hdr:C.ns.drop at_=flatT (.mk ⟨d,6,za,0,0,a⟩ []) d++rest)(hrest:RestOk rest d)(hu:u+8*(0)<=799996)(hT:T.size+208*(0)<=799900)(F:Nat->Value)(f0:F 0= .pointer (some ⟨C.r,0,none⟩))(f2:F 2= .pointer (some ⟨x,0,none⟩))(R:Ending->World->Prop)
 (HQ:Hid (∀w',SP C at_ u T pl .s (.mk ⟨d,6,za,0,0,a⟩ []) d w'->Wm C w w'->R (.returned (.tuple #[])) w')):yq1.wp Tryz.prog (bodyPost Tryz.prog Tryz.f57 R) (frN 147 F) w:=by
 have H0:=Lib.hid h;have M0:Hid (Wm C w w):=Lib.hid (Wm.refl C w);have HX:Hid (∀w',Wm C w w'->NdAt w' x ⟨d,6,za,0,0,a⟩):=Lib.hid (fun w' m=>(m.block x (lt_of_block hx) hxr hxg).trans hx);obtain⟨x0,x1,x2,x3,x4,x5⟩:=hx.cells
 dsimp only at x0 x1 x2 x3 x4 x5
 have z_kSkp:kSkp.size=4:=rfl;have y_kSkp:(⟨#[115,107,105,112]⟩:ByteArray).size=4:=rfl;have z_sSm:sSm.size=1:=rfl;have y_sSm:(⟨#[59]⟩:ByteArray).size=1:=rfl;have hroom:=zU hdr (by simp[flatT])
 have hfl:flatT (.mk ⟨d,6,za,0,0,a⟩ []) d=⟨d,6,za,0,0,a⟩::[]:=by simp[flatT,flatTs]
 rw[hfl,List.cons_append] at hdr;rw[hfl] at hroom;obtain⟨_,hat,hdr1⟩:=zt hdr
 simp only[List.length_cons,List.length_append,List.length_nil] at hroom;clear h hx hdr hdr1;rw[qZ];simp only[f0,f2];conv=>enter [2];simp only[yq1,yq0,seqL,seqR,Tryz.f57,Option.getD_some]
 go_wp2_with (first|(go_at_call 103;with_reducible refine WPost.go (zH C _ _ _ ⟨#[59]⟩ _ _ H1.out (by(try simp only[sz3,bytes_size]);omega) (by(try simp only[sz3,bytes_size]);omega) (by omega)) ?_;rintro w2 ⟨f2,hf,hw⟩ hm;have F2:=Lib.hid hf;have H2:=Lib.hid hw;have M2:=Lib.hid (M1.out.trans hm);have b2:=zg f2 hf;clear hf hw hm;obtain⟨-,-,y2,y3,-,-⟩:=(HX.out _ M2.out).cells;dsimp only at y2 y3)|(go_at_call 102;refine WPost.go (zW C at_ u T kSkp pl _ H0.out hat (by omega) (by omega) (by omega)) ?_;rintro w1 ⟨f1,hf,hw⟩ hm;have F1:=Lib.hid hf;have H1:=Lib.hid hw;have M1:=Lib.hid hm;have b1:=zg f1 hf;clear hf hw hm;obtain⟨-,-,y2,y3,-,-⟩:=(HX.out _ M1.out).cells;dsimp only at y2 y3));have hpl:=H0.out.hl;exact⟨rfl, .tuple #[],by simp[results,Tryz.f57],HQ.out _ ⟨[(f1,kSkp),(f2,sSm)],leafT 6 za 0 0 ((T.size+f1.length:Nat):Int) [],u+2, .skip F1.out F2.out,(by rw[hfl];simp only[zq,szOf_append,List.length_cons,List.length_append,List.length_nil,show szOf []=0 from rfl];try omega),(by rw[hfl];simp only[List.length_cons,List.length_append,List.length_nil];try omega),H2.out.cast (by rw[hfl];simp only[List.length_cons,List.length_append,List.length_nil];try omega) (by simp only[zE,zN,List.cons_append,List.nil_append,List.append_assoc];try rfl) (by rw[show((T.size:Int)+(f1.length:Int))=(⟨d,6,za,0,0,((T.size+f1.length:Nat):Int)⟩:Nd).at_ from rfl,xZ (by omega)];simp[flatT,flatTs,leafT])⟩ M2.out⟩
theorem zcn(C:WCx)(at_ u:Nat)(T:ByteArray)(pl:List Int)(w:World)(h:Wr C w at_ u T pl)(x:Nat)(d a:Int)(s:ByteArray)(hx:NdAt w x ⟨d,4,s,0,0,a⟩)(hxr:x≠C.r)(hxg:x≠C.g)(hs:nameableB s=true)(rest:List Nd)(hdr:C.ns.drop at_=flatT (.mk ⟨d,4,s,0,0,a⟩ []) d++rest)(hrest:RestOk rest d)(hu:u+8*(0)<=799996)(hT:T.size+208*(0)<=799900)(F:Nat->Value)(f0:F 0= .pointer (some ⟨C.r,0,none⟩))(f2:F 2= .pointer (some ⟨x,0,none⟩))(R:Ending->World->Prop)
 (HQ:Hid (∀w',SP C at_ u T pl .s (.mk ⟨d,4,s,0,0,a⟩ []) d w'->Wm C w w'->R (.returned (.tuple #[])) w')):yq1.wp Tryz.prog (bodyPost Tryz.prog Tryz.f57 R) (frN 147 F) w:=by
 have H0:=Lib.hid h;have M0:Hid (Wm C w w):=Lib.hid (Wm.refl C w);have HX:Hid (∀w',Wm C w w'->NdAt w' x ⟨d,4,s,0,0,a⟩):=Lib.hid (fun w' m=>(m.block x (lt_of_block hx) hxr hxg).trans hx);obtain⟨x0,x1,x2,x3,x4,x5⟩:=hx.cells
 dsimp only at x0 x1 x2 x3 x4 x5
 have z_kInp:kInp.size=5:=rfl;have y_kInp:(⟨#[105,110,112,117,116]⟩:ByteArray).size=5:=rfl;have z_sSm:sSm.size=1:=rfl;have y_sSm:(⟨#[59]⟩:ByteArray).size=1:=rfl;have hds:=xV hs;have HS:=Lib.hid hs;have hroom:=zU hdr (by simp[flatT])
 have hfl:flatT (.mk ⟨d,4,s,0,0,a⟩ []) d=⟨d,4,s,0,0,a⟩::[]:=by simp[flatT,flatTs]
 rw[hfl,List.cons_append] at hdr;rw[hfl] at hroom;obtain⟨_,hat,hdr1⟩:=zt hdr
 simp only[List.length_cons,List.length_append,List.length_nil] at hroom;clear h hx hdr hdr1;rw[qZ];simp only[f0,f2];conv=>enter [2];simp only[yq1,yq0,seqL,seqR,Tryz.f57,Option.getD_some]
 go_wp2_with (first|(go_at_call 103;with_reducible refine WPost.go (zH C _ _ _ ⟨#[59]⟩ _ _ H2.out (by(try simp only[sz3,bytes_size]);omega) (by(try simp only[sz3,bytes_size]);omega) (by omega)) ?_;rintro w3 ⟨f3,hf,hw⟩ hm;have F3:=Lib.hid hf;have H3:=Lib.hid hw;have M3:=Lib.hid (M2.out.trans hm);have b3:=zg f3 hf;clear hf hw hm;obtain⟨-,-,y2,y3,-,-⟩:=(HX.out _ M3.out).cells;dsimp only at y2 y3)|(go_at_call 103;with_reducible refine WPost.go (zH C _ _ _ s _ _ H1.out (by(try simp only[sz3,bytes_size]);omega) (by(try simp only[sz3,bytes_size]);omega) (by omega)) ?_;rintro w2 ⟨f2,hf,hw⟩ hm;have F2:=Lib.hid hf;have H2:=Lib.hid hw;have M2:=Lib.hid (M1.out.trans hm);have b2:=zg f2 hf;clear hf hw hm;obtain⟨-,-,y2,y3,-,-⟩:=(HX.out _ M2.out).cells;dsimp only at y2 y3)|(go_at_call 102;refine WPost.go (zW C at_ u T kInp pl _ H0.out hat (by omega) (by omega) (by omega)) ?_;rintro w1 ⟨f1,hf,hw⟩ hm;have F1:=Lib.hid hf;have H1:=Lib.hid hw;have M1:=Lib.hid hm;have b1:=zg f1 hf;clear hf hw hm;obtain⟨-,-,y2,y3,-,-⟩:=(HX.out _ M1.out).cells;dsimp only at y2 y3));have hpl:=H0.out.hl;exact⟨rfl, .tuple #[],by simp[results,Tryz.f57],HQ.out _ ⟨[(f1,kInp),(f2,s),(f3,sSm)],leafT 4 s 0 0 ((T.size+f1.length:Nat):Int) [],u+3, .input F1.out F2.out F3.out HS.out,(by rw[hfl];simp only[zq,szOf_append,List.length_cons,List.length_append,List.length_nil,show szOf []=0 from rfl];try omega),(by rw[hfl];simp only[List.length_cons,List.length_append,List.length_nil];try omega),H3.out.cast (by rw[hfl];simp only[List.length_cons,List.length_append,List.length_nil];try omega) (by simp only[zE,zN,List.cons_append,List.nil_append,List.append_assoc];try rfl) (by rw[show((T.size:Int)+(f1.length:Int))=(⟨d,4,s,0,0,((T.size+f1.length:Nat):Int)⟩:Nd).at_ from rfl,xZ (by omega)];simp[flatT,flatTs,leafT])⟩ M3.out⟩
theorem za4(C:WCx)(at_ u:Nat)(T:ByteArray)(pl:List Int)(w:World)(h:Wr C w at_ u T pl)(x:Nat)(d a:Int)(s:ByteArray)(e:Tr)(hx:NdAt w x ⟨d,2,s,0,0,a⟩)(hxr:x≠C.r)(hxg:x≠C.g)(hs:nameableB s=true)(I0:yS C e)(rest:List Nd)(hdr:C.ns.drop at_=flatT (.mk ⟨d,2,s,0,0,a⟩ [e]) d++rest)(hrest:RestOk rest d)(hu:u+8*((flatT e (d+1)).length)<=799996)(hT:T.size+208*((flatT e (d+1)).length)<=799900)(F:Nat->Value)(f0:F 0= .pointer (some ⟨C.r,0,none⟩))(f2:F 2= .pointer (some ⟨x,0,none⟩))(R:Ending->World->Prop)
 (HQ:Hid (∀w',SP C at_ u T pl .s (.mk ⟨d,2,s,0,0,a⟩ [e]) d w'->Wm C w w'->R (.returned (.tuple #[])) w')):yq1.wp Tryz.prog (bodyPost Tryz.prog Tryz.f57 R) (frN 147 F) w:=by
 have H0:=Lib.hid h;have M0:Hid (Wm C w w):=Lib.hid (Wm.refl C w);have HX:Hid (∀w',Wm C w w'->NdAt w' x ⟨d,2,s,0,0,a⟩):=Lib.hid (fun w' m=>(m.block x (lt_of_block hx) hxr hxg).trans hx);obtain⟨x0,x1,x2,x3,x4,x5⟩:=hx.cells
 dsimp only at x0 x1 x2 x3 x4 x5
 have z_sAs:sAs.size=2:=rfl;have y_sAs:(⟨#[58,61]⟩:ByteArray).size=2:=rfl;have z_sSm:sSm.size=1:=rfl;have y_sSm:(⟨#[59]⟩:ByteArray).size=1:=rfl;have hds:=xV hs;have HS:=Lib.hid hs;have hroom:=zU hdr (by simp[flatT])
 have hfl:flatT (.mk ⟨d,2,s,0,0,a⟩ [e]) d=⟨d,2,s,0,0,a⟩::(flatT e (d+1)):=by simp[flatT,flatTs]
 rw[hfl,List.cons_append] at hdr;rw[hfl] at hroom;obtain⟨_,hat,hdr1⟩:=zt hdr
 have D0:=Lib.hid hdr1;have J0:=Lib.hid I0;clear I0;simp only[List.length_cons,List.length_append,List.length_nil] at hroom;clear h hx hdr hdr1;rw[qZ];simp only[f0,f2];conv=>enter [2];simp only[yq1,yq0,seqL,seqR,Tryz.f57,Option.getD_some]
 go_wp2_with (first|(go_at_call 103;with_reducible refine WPost.go (zH C _ _ _ ⟨#[59]⟩ _ _ H3.out (by have:=Z3.out;have:=U3.out;(try simp only[sz3,bytes_size]);omega) (by have:=Z3.out;have:=U3.out;(try simp only[sz3,bytes_size]);omega) (by omega)) ?_;rintro w4 ⟨f4,hf,hw⟩ hm;have F4:=Lib.hid hf;have H4:=Lib.hid hw;have M4:=Lib.hid (M3.out.trans hm);have b4:=zg f4 hf;clear hf hw hm;obtain⟨-,-,y2,y3,-,-⟩:=(HX.out _ M4.out).cells;dsimp only at y2 y3)|(go_at_call 105;refine WPost.go (J0.out 0 (by omega) (d+1) _ _ _ _ _ _ H2.out D0.out (by(try simp only[sz3,bytes_size]);omega) (by(try simp only[sz3,bytes_size]);omega)) ?_;rintro w3 ⟨l3,t3,u3,hW,hz,hu3,hw⟩ hm;have W3:=Lib.hid hW;have Z3:=Lib.hid hz;have U3:=Lib.hid hu3;have H3:=Lib.hid hw;have M3:=Lib.hid (M2.out.trans hm);clear hW hz hu3 hw hm;obtain⟨-,-,y2,y3,-,-⟩:=(HX.out _ M3.out).cells;dsimp only at y2 y3)|(go_at_call 103;with_reducible refine WPost.go (zH C _ _ _ ⟨#[58,61]⟩ _ _ H1.out (by(try simp only[sz3,bytes_size]);omega) (by(try simp only[sz3,bytes_size]);omega) (by omega)) ?_;rintro w2 ⟨f2,hf,hw⟩ hm;have F2:=Lib.hid hf;have H2:=Lib.hid hw;have M2:=Lib.hid (M1.out.trans hm);have b2:=zg f2 hf;clear hf hw hm;obtain⟨-,-,y2,y3,-,-⟩:=(HX.out _ M2.out).cells;dsimp only at y2 y3)|(go_at_call 102;refine WPost.go (zW C at_ u T s pl _ H0.out hat (by omega) (by omega) (by omega)) ?_;rintro w1 ⟨f1,hf,hw⟩ hm;have F1:=Lib.hid hf;have H1:=Lib.hid hw;have M1:=Lib.hid hm;have b1:=zg f1 hf;clear hf hw hm;obtain⟨-,-,y2,y3,-,-⟩:=(HX.out _ M1.out).cells;dsimp only at y2 y3));have e3:=yg W3.out (d+1);have g3:=Z3.out;have k3:=U3.out;have hpl:=H0.out.hl;exact⟨rfl, .tuple #[],by simp[results,Tryz.f57],HQ.out _ ⟨(f1,s)::(f2,sAs)::(l3++[(f4,sSm)]),leafT 2 s 0 0 ((T.size+f1.length:Nat):Int) [t3],u3+1, .assign F1.out F2.out F4.out HS.out (by have:=W3.out;simp only[sz3,bytes_size] at this;exact this),(by rw[hfl];simp only[zq,szOf_append,List.length_cons,List.length_append,List.length_nil,show szOf []=0 from rfl];try omega),(by rw[hfl];simp only[List.length_cons,List.length_append,List.length_nil];try omega),H4.out.cast (by rw[hfl];simp only[List.length_cons,List.length_append,List.length_nil];try omega) (by simp only[zE,zN,List.cons_append,List.nil_append,List.append_assoc];try rfl) (by rw[show((T.size:Int)+(f1.length:Int))=(⟨d,2,s,0,0,((T.size+f1.length:Nat):Int)⟩:Nd).at_ from rfl,qp (by omega)];simp[flatT,flatTs,leafT])⟩ M4.out⟩
theorem za5(C:WCx)(at_ u:Nat)(T:ByteArray)(pl:List Int)(w:World)(h:Wr C w at_ u T pl)(x:Nat)(d a:Int)(e:Tr)(hx:NdAt w x ⟨d,5,za,0,0,a⟩)(hxr:x≠C.r)(hxg:x≠C.g)(I0:yS C e)(rest:List Nd)(hdr:C.ns.drop at_=flatT (.mk ⟨d,5,za,0,0,a⟩ [e]) d++rest)(hrest:RestOk rest d)(hu:u+8*((flatT e (d+1)).length)<=799996)(hT:T.size+208*((flatT e (d+1)).length)<=799900)(F:Nat->Value)(f0:F 0= .pointer (some ⟨C.r,0,none⟩))(f2:F 2= .pointer (some ⟨x,0,none⟩))(R:Ending->World->Prop)
 (HQ:Hid (∀w',SP C at_ u T pl .s (.mk ⟨d,5,za,0,0,a⟩ [e]) d w'->Wm C w w'->R (.returned (.tuple #[])) w')):yq1.wp Tryz.prog (bodyPost Tryz.prog Tryz.f57 R) (frN 147 F) w:=by
 have H0:=Lib.hid h;have M0:Hid (Wm C w w):=Lib.hid (Wm.refl C w);have HX:Hid (∀w',Wm C w w'->NdAt w' x ⟨d,5,za,0,0,a⟩):=Lib.hid (fun w' m=>(m.block x (lt_of_block hx) hxr hxg).trans hx);obtain⟨x0,x1,x2,x3,x4,x5⟩:=hx.cells
 dsimp only at x0 x1 x2 x3 x4 x5
 have z_kAst:kAst.size=6:=rfl;have y_kAst:(⟨#[97,115,115,101,114,116]⟩:ByteArray).size=6:=rfl;have z_sSm:sSm.size=1:=rfl;have y_sSm:(⟨#[59]⟩:ByteArray).size=1:=rfl;have hroom:=zU hdr (by simp[flatT])
 have hfl:flatT (.mk ⟨d,5,za,0,0,a⟩ [e]) d=⟨d,5,za,0,0,a⟩::(flatT e (d+1)):=by simp[flatT,flatTs]
 rw[hfl,List.cons_append] at hdr;rw[hfl] at hroom;obtain⟨_,hat,hdr1⟩:=zt hdr
 have D0:=Lib.hid hdr1;have J0:=Lib.hid I0;clear I0;simp only[List.length_cons,List.length_append,List.length_nil] at hroom;clear h hx hdr hdr1;rw[qZ];simp only[f0,f2];conv=>enter [2];simp only[yq1,yq0,seqL,seqR,Tryz.f57,Option.getD_some]
 go_wp2_with (first|(go_at_call 103;with_reducible refine WPost.go (zH C _ _ _ ⟨#[59]⟩ _ _ H2.out (by have:=Z2.out;have:=U2.out;(try simp only[sz3,bytes_size]);omega) (by have:=Z2.out;have:=U2.out;(try simp only[sz3,bytes_size]);omega) (by omega)) ?_;rintro w3 ⟨f3,hf,hw⟩ hm;have F3:=Lib.hid hf;have H3:=Lib.hid hw;have M3:=Lib.hid (M2.out.trans hm);have b3:=zg f3 hf;clear hf hw hm;obtain⟨-,-,y2,y3,-,-⟩:=(HX.out _ M3.out).cells;dsimp only at y2 y3)|(go_at_call 105;refine WPost.go (J0.out 0 (by omega) (d+1) _ _ _ _ _ _ H1.out D0.out (by(try simp only[sz3,bytes_size]);omega) (by(try simp only[sz3,bytes_size]);omega)) ?_;rintro w2 ⟨l2,t2,u2,hW,hz,hu3,hw⟩ hm;have W2:=Lib.hid hW;have Z2:=Lib.hid hz;have U2:=Lib.hid hu3;have H2:=Lib.hid hw;have M2:=Lib.hid (M1.out.trans hm);clear hW hz hu3 hw hm;obtain⟨-,-,y2,y3,-,-⟩:=(HX.out _ M2.out).cells;dsimp only at y2 y3)|(go_at_call 102;refine WPost.go (zW C at_ u T kAst pl _ H0.out hat (by omega) (by omega) (by omega)) ?_;rintro w1 ⟨f1,hf,hw⟩ hm;have F1:=Lib.hid hf;have H1:=Lib.hid hw;have M1:=Lib.hid hm;have b1:=zg f1 hf;clear hf hw hm;obtain⟨-,-,y2,y3,-,-⟩:=(HX.out _ M1.out).cells;dsimp only at y2 y3));have e2:=yg W2.out (d+1);have g2:=Z2.out;have k2:=U2.out;have hpl:=H0.out.hl;exact⟨rfl, .tuple #[],by simp[results,Tryz.f57],HQ.out _ ⟨(f1,kAst)::(l2++[(f3,sSm)]),leafT 5 za 0 0 ((T.size+f1.length:Nat):Int) [t2],u2+1, .assert F1.out F3.out (by have:=W2.out;simp only[sz3,bytes_size] at this;exact this),(by rw[hfl];simp only[zq,szOf_append,List.length_cons,List.length_append,List.length_nil,show szOf []=0 from rfl];try omega),(by rw[hfl];simp only[List.length_cons,List.length_append,List.length_nil];try omega),H3.out.cast (by rw[hfl];simp only[List.length_cons,List.length_append,List.length_nil];try omega) (by simp only[zE,zN,List.cons_append,List.nil_append,List.append_assoc];try rfl) (by rw[show((T.size:Int)+(f1.length:Int))=(⟨d,5,za,0,0,((T.size+f1.length:Nat):Int)⟩:Nd).at_ from rfl,qp (by omega)];simp[flatT,flatTs,leafT])⟩ M3.out⟩
theorem zcm(C:WCx)(at_ u:Nat)(T:ByteArray)(pl:List Int)(w:World)(h:Wr C w at_ u T pl)(x:Nat)(d a:Int)(s:ByteArray)(e y:Tr)(hx:NdAt w x ⟨d,3,s,0,0,a⟩)(hxr:x≠C.r)(hxg:x≠C.g)(hs:nameableB s=true)(I0:yS C e)(I1:yS C y)(rest:List Nd)(hdr:C.ns.drop at_=flatT (.mk ⟨d,3,s,0,0,a⟩ [e,y]) d++rest)(hrest:RestOk rest d)(hu:u+8*((flatT e (d+1)).length+(flatT y (d+1)).length)<=799996)(hT:T.size+208*((flatT e (d+1)).length+(flatT y (d+1)).length)<=799900)(F:Nat->Value)(f0:F 0= .pointer (some ⟨C.r,0,none⟩))(f2:F 2= .pointer (some ⟨x,0,none⟩))(R:Ending->World->Prop)
 (HQ:Hid (∀w',SP C at_ u T pl .s (.mk ⟨d,3,s,0,0,a⟩ [e,y]) d w'->Wm C w w'->R (.returned (.tuple #[])) w')):yq1.wp Tryz.prog (bodyPost Tryz.prog Tryz.f57 R) (frN 147 F) w:=by
 have H0:=Lib.hid h;have M0:Hid (Wm C w w):=Lib.hid (Wm.refl C w);have HX:Hid (∀w',Wm C w w'->NdAt w' x ⟨d,3,s,0,0,a⟩):=Lib.hid (fun w' m=>(m.block x (lt_of_block hx) hxr hxg).trans hx);obtain⟨x0,x1,x2,x3,x4,x5⟩:=hx.cells
 dsimp only at x0 x1 x2 x3 x4 x5
 have z_sAs:sAs.size=2:=rfl;have y_sAs:(⟨#[58,61]⟩:ByteArray).size=2:=rfl;have z_sLb:sLb.size=1:=rfl;have y_sLb:(⟨#[91]⟩:ByteArray).size=1:=rfl;have z_sRb:sRb.size=1:=rfl;have y_sRb:(⟨#[93]⟩:ByteArray).size=1:=rfl;have z_sSm:sSm.size=1:=rfl;have y_sSm:(⟨#[59]⟩:ByteArray).size=1:=rfl;have hds:=xV hs;have HS:=Lib.hid hs;have hroom:=zU hdr (by simp[flatT])
 have hfl:flatT (.mk ⟨d,3,s,0,0,a⟩ [e,y]) d=⟨d,3,s,0,0,a⟩::(flatT e (d+1)++flatT y (d+1)):=by simp[flatT,flatTs]
 rw[hfl,List.cons_append] at hdr;rw[hfl] at hroom;obtain⟨_,hat,hdr1⟩:=zt hdr
 rw[List.append_assoc] at hdr1;have D0:=Lib.hid hdr1;have D1:=Lib.hid (xb hdr1);have J0:=Lib.hid I0;have J1:=Lib.hid I1;clear I0 I1;simp only[List.length_cons,List.length_append,List.length_nil] at hroom;clear h hx hdr hdr1;rw[qZ];simp only[f0,f2];conv=>enter [2];simp only[yq1,yq0,seqL,seqR,Tryz.f57,Option.getD_some]
 go_wp2_with (first|(go_at_call 103;with_reducible refine WPost.go (zH C _ _ _ ⟨#[59]⟩ _ _ H6.out (by have:=Z3.out;have:=U3.out;have:=Z6.out;have:=U6.out;(try simp only[sz3,bytes_size]);omega) (by have:=Z3.out;have:=U3.out;have:=Z6.out;have:=U6.out;(try simp only[sz3,bytes_size]);omega) (by omega)) ?_;rintro w7 ⟨f7,hf,hw⟩ hm;have F7:=Lib.hid hf;have H7:=Lib.hid hw;have M7:=Lib.hid (M6.out.trans hm);have b7:=zg f7 hf;clear hf hw hm;obtain⟨-,-,y2,y3,-,-⟩:=(HX.out _ M7.out).cells;dsimp only at y2 y3)|(go_at_call 105;refine WPost.go (J1.out 0 (by omega) (d+1) _ _ _ _ _ _ H5.out D1.out (by have:=Z3.out;have:=U3.out;(try simp only[sz3,bytes_size]);omega) (by have:=Z3.out;have:=U3.out;(try simp only[sz3,bytes_size]);omega)) ?_;rintro w6 ⟨l6,t6,u6,hW,hz,hu3,hw⟩ hm;have W6:=Lib.hid hW;have Z6:=Lib.hid hz;have U6:=Lib.hid hu3;have H6:=Lib.hid hw;have M6:=Lib.hid (M5.out.trans hm);clear hW hz hu3 hw hm;obtain⟨-,-,y2,y3,-,-⟩:=(HX.out _ M6.out).cells;dsimp only at y2 y3)|(go_at_call 103;with_reducible refine WPost.go (zH C _ _ _ ⟨#[58,61]⟩ _ _ H4.out (by have:=Z3.out;have:=U3.out;(try simp only[sz3,bytes_size]);omega) (by have:=Z3.out;have:=U3.out;(try simp only[sz3,bytes_size]);omega) (by omega)) ?_;rintro w5 ⟨f5,hf,hw⟩ hm;have F5:=Lib.hid hf;have H5:=Lib.hid hw;have M5:=Lib.hid (M4.out.trans hm);have b5:=zg f5 hf;clear hf hw hm;obtain⟨-,-,y2,y3,-,-⟩:=(HX.out _ M5.out).cells;dsimp only at y2 y3)|(go_at_call 103;with_reducible refine WPost.go (zH C _ _ _ ⟨#[93]⟩ _ _ H3.out (by have:=Z3.out;have:=U3.out;(try simp only[sz3,bytes_size]);omega) (by have:=Z3.out;have:=U3.out;(try simp only[sz3,bytes_size]);omega) (by omega)) ?_;rintro w4 ⟨f4,hf,hw⟩ hm;have F4:=Lib.hid hf;have H4:=Lib.hid hw;have M4:=Lib.hid (M3.out.trans hm);have b4:=zg f4 hf;clear hf hw hm;obtain⟨-,-,y2,y3,-,-⟩:=(HX.out _ M4.out).cells;dsimp only at y2 y3)|(go_at_call 105;refine WPost.go (J0.out 0 (by omega) (d+1) _ _ _ _ _ _ H2.out D0.out (by(try simp only[sz3,bytes_size]);omega) (by(try simp only[sz3,bytes_size]);omega)) ?_;rintro w3 ⟨l3,t3,u3,hW,hz,hu3,hw⟩ hm;have W3:=Lib.hid hW;have Z3:=Lib.hid hz;have U3:=Lib.hid hu3;have H3:=Lib.hid hw;have M3:=Lib.hid (M2.out.trans hm);clear hW hz hu3 hw hm;obtain⟨-,-,y2,y3,-,-⟩:=(HX.out _ M3.out).cells;dsimp only at y2 y3)|(go_at_call 103;with_reducible refine WPost.go (zH C _ _ _ ⟨#[91]⟩ _ _ H1.out (by(try simp only[sz3,bytes_size]);omega) (by(try simp only[sz3,bytes_size]);omega) (by omega)) ?_;rintro w2 ⟨f2,hf,hw⟩ hm;have F2:=Lib.hid hf;have H2:=Lib.hid hw;have M2:=Lib.hid (M1.out.trans hm);have b2:=zg f2 hf;clear hf hw hm;obtain⟨-,-,y2,y3,-,-⟩:=(HX.out _ M2.out).cells;dsimp only at y2 y3)|(go_at_call 102;refine WPost.go (zW C at_ u T s pl _ H0.out hat (by omega) (by omega) (by omega)) ?_;rintro w1 ⟨f1,hf,hw⟩ hm;have F1:=Lib.hid hf;have H1:=Lib.hid hw;have M1:=Lib.hid hm;have b1:=zg f1 hf;clear hf hw hm;obtain⟨-,-,y2,y3,-,-⟩:=(HX.out _ M1.out).cells;dsimp only at y2 y3));have e3:=yg W3.out (d+1);have g3:=Z3.out;have k3:=U3.out;have e6:=yg W6.out (d+1);have g6:=Z6.out;have k6:=U6.out;have hpl:=H0.out.hl;exact⟨rfl, .tuple #[],by simp[results,Tryz.f57],HQ.out _ ⟨(f1,s)::(f2,sLb)::(l3++(f4,sRb)::(f5,sAs)::(l6++[(f7,sSm)])),leafT 3 s 0 0 ((T.size+f1.length:Nat):Int) [t3,t6],u6+1, .store F1.out F2.out F4.out F5.out F7.out HS.out (by have:=W3.out;simp only[sz3,bytes_size] at this;exact this) (by have:=W6.out;simp only[sz3,bytes_size] at this;exact this),(by rw[hfl];simp only[zq,szOf_append,List.length_cons,List.length_append,List.length_nil,show szOf []=0 from rfl];try omega),(by rw[hfl];simp only[List.length_cons,List.length_append,List.length_nil];try omega),H7.out.cast (by rw[hfl];simp only[List.length_cons,List.length_append,List.length_nil];try omega) (by simp only[zE,zN,List.cons_append,List.nil_append,List.append_assoc];try rfl) (by rw[show((T.size:Int)+(f1.length:Int))=(⟨d,3,s,0,0,((T.size+f1.length:Nat):Int)⟩:Nd).at_ from rfl,vH e3 (by omega)];simp[flatT,flatTs,leafT])⟩ M7.out⟩
def DP(C:WCx)(at_ u:Nat)(T:ByteArray)(pl:List Int)(t:Tr)(d:Int)(w':World):Prop:=
 ∃l t' u',(∀ts m ts',W .p (T.size+szOf l) ts m ts'->W .p T.size (t::ts) (l++m) (t'::ts'))/\szOf l<=208*(flatT t d).length/\u'<=u+8*(flatT t d).length/\(flatT t' d).length=(flatT t d).length/\Wr C w' (at_+(flatT t d).length) u' (T++zR l) (plW pl at_ (flatT t' d))
theorem qU{rest:List Nd}{d:Int}(h:RestOk rest d):RestOk rest (d+1):=fun m l e=>by have:=h m l e;omega
theorem zfn(C:WCx)(at_ u:Nat)(T:ByteArray)(pl:List Int)(w:World)(h:Wr C w at_ u T pl)(x:Nat)(d a:Int)(s:ByteArray)(hx:NdAt w x ⟨d,0,s,0,0,a⟩)(hxr:x≠C.r)(hxg:x≠C.g)(hs:nameableB s=true)(rest:List Nd)(hdr:C.ns.drop at_=flatT (.mk ⟨d,0,s,0,0,a⟩ []) d++rest)(hrest:RestOk rest d)(hu:u+8*(0)<=799996)(hT:T.size+208*(0)<=799900)(F:Nat->Value)(f0:F 0= .pointer (some ⟨C.r,0,none⟩))(f2:F 2= .pointer (some ⟨x,0,none⟩))(R:Ending->World->Prop)
 (HQ:Hid (∀w',DP C at_ u T pl (.mk ⟨d,0,s,0,0,a⟩ []) d w'->Wm C w w'->R (.returned (.tuple #[])) w')):yq1.wp Tryz.prog (bodyPost Tryz.prog Tryz.f57 R) (frN 147 F) w:=by
 have H0:=Lib.hid h;have M0:Hid (Wm C w w):=Lib.hid (Wm.refl C w);have HX:Hid (∀w',Wm C w w'->NdAt w' x ⟨d,0,s,0,0,a⟩):=Lib.hid (fun w' m=>(m.block x (lt_of_block hx) hxr hxg).trans hx);obtain⟨x0,x1,x2,x3,x4,x5⟩:=hx.cells
 dsimp only at x0 x1 x2 x3 x4 x5
 have z_kVar:kVar.size=3:=rfl;have y_kVar:(⟨#[118,97,114]⟩:ByteArray).size=3:=rfl;have z_sSm:sSm.size=1:=rfl;have y_sSm:(⟨#[59]⟩:ByteArray).size=1:=rfl;have hds:=xV hs;have HS:=Lib.hid hs;have hroom:=zU hdr (by simp[flatT])
 have hfl:flatT (.mk ⟨d,0,s,0,0,a⟩ []) d=⟨d,0,s,0,0,a⟩::[]:=by simp[flatT,flatTs]
 rw[hfl,List.cons_append] at hdr;rw[hfl] at hroom;obtain⟨_,hat,hdr1⟩:=zt hdr
 simp only[List.length_cons,List.length_append,List.length_nil] at hroom;clear h hx hdr hdr1;rw[qZ];simp only[f0,f2];conv=>enter [2];simp only[yq1,yq0,seqL,seqR,Tryz.f57,Option.getD_some]
 go_wp2_with (first|(go_at_call 103;with_reducible refine WPost.go (zH C _ _ _ ⟨#[59]⟩ _ _ H2.out (by(try simp only[sz3,bytes_size]);omega) (by(try simp only[sz3,bytes_size]);omega) (by omega)) ?_;rintro w3 ⟨f3,hf,hw⟩ hm;have F3:=Lib.hid hf;have H3:=Lib.hid hw;have M3:=Lib.hid (M2.out.trans hm);have b3:=zg f3 hf;clear hf hw hm;obtain⟨-,-,y2,y3,-,-⟩:=(HX.out _ M3.out).cells;dsimp only at y2 y3)|(go_at_call 103;with_reducible refine WPost.go (zH C _ _ _ s _ _ H1.out (by(try simp only[sz3,bytes_size]);omega) (by(try simp only[sz3,bytes_size]);omega) (by omega)) ?_;rintro w2 ⟨f2,hf,hw⟩ hm;have F2:=Lib.hid hf;have H2:=Lib.hid hw;have M2:=Lib.hid (M1.out.trans hm);have b2:=zg f2 hf;clear hf hw hm;obtain⟨-,-,y2,y3,-,-⟩:=(HX.out _ M2.out).cells;dsimp only at y2 y3)|(go_at_call 102;refine WPost.go (zW C at_ u T kVar pl _ H0.out hat (by omega) (by omega) (by omega)) ?_;rintro w1 ⟨f1,hf,hw⟩ hm;have F1:=Lib.hid hf;have H1:=Lib.hid hw;have M1:=Lib.hid hm;have b1:=zg f1 hf;clear hf hw hm;obtain⟨-,-,y2,y3,-,-⟩:=(HX.out _ M1.out).cells;dsimp only at y2 y3));have hpl:=H0.out.hl;exact⟨rfl, .tuple #[],by simp[results,Tryz.f57],HQ.out _ ⟨[(f1,kVar),(f2,s),(f3,sSm)],leafT 0 s 0 0 ((T.size+f1.length:Nat):Int) [],u+3,(fun ts m ts' hW=>by
  have hW2:W .p (T.size+f1.length+3+f2.length+s.size+f3.length+1) ts m ts':=by
   have e:T.size+szOf [(f1,kVar),(f2,s),(f3,sSm)]=T.size+f1.length+3+f2.length+s.size+f3.length+1:=by simp only[zq,show szOf []=0 from rfl];omega
   rw[<-e];exact hW
  exact .var F1.out F2.out F3.out HS.out hW2),(by rw[hfl];simp only[zq,szOf_append,List.length_cons,List.length_append,List.length_nil,show szOf []=0 from rfl];try omega),(by rw[hfl];simp only[List.length_cons,List.length_append,List.length_nil];try omega),by simp[flatT,flatTs,leafT],H3.out.cast (by rw[hfl];simp only[List.length_cons,List.length_append,List.length_nil];try omega) (by simp only[zE,zN,List.cons_append,List.nil_append,List.append_assoc];try rfl) (by rw[show((T.size:Int)+(f1.length:Int))=(⟨d,0,s,0,0,((T.size+f1.length:Nat):Int)⟩:Nd).at_ from rfl,xZ (by omega)];simp[flatT,flatTs,leafT])⟩ M3.out⟩
theorem zfs(C:WCx)(at_ u:Nat)(T:ByteArray)(pl:List Int)(w:World)(h:Wr C w at_ u T pl)(x:Nat)(d a:Int)(s:ByteArray)(X:Int)(hx:NdAt w x ⟨d,1,s,X,0,a⟩)(hxr:x≠C.r)(hxg:x≠C.g)(hs:nameableB s=true)(ht:TabW C.w0)(hX0:0<=X)(hX1:X<=9223372036854775807)(rest:List Nd)(hdr:C.ns.drop at_=flatT (.mk ⟨d,1,s,X,0,a⟩ []) d++rest)(hrest:RestOk rest d)(hu:u+8*(0)<=799996)(hT:T.size+208*(0)<=799900)(F:Nat->Value)(f0:F 0= .pointer (some ⟨C.r,0,none⟩))(f2:F 2= .pointer (some ⟨x,0,none⟩))(R:Ending->World->Prop)
 (HQ:Hid (∀w',DP C at_ u T pl (.mk ⟨d,1,s,X,0,a⟩ []) d w'->Wm C w w'->R (.returned (.tuple #[])) w')):yq1.wp Tryz.prog (bodyPost Tryz.prog Tryz.f57 R) (frN 147 F) w:=by
 have H0:=Lib.hid h;have M0:Hid (Wm C w w):=Lib.hid (Wm.refl C w);have HX:Hid (∀w',Wm C w w'->NdAt w' x ⟨d,1,s,X,0,a⟩):=Lib.hid (fun w' m=>(m.block x (lt_of_block hx) hxr hxg).trans hx);obtain⟨x0,x1,x2,x3,x4,x5⟩:=hx.cells
 dsimp only at x0 x1 x2 x3 x4 x5
 have z_kArr:kArr.size=5:=rfl;have y_kArr:(⟨#[97,114,114,97,121]⟩:ByteArray).size=5:=rfl;have z_sLb:sLb.size=1:=rfl;have y_sLb:(⟨#[91]⟩:ByteArray).size=1:=rfl;have z_sRb:sRb.size=1:=rfl;have y_sRb:(⟨#[93]⟩:ByteArray).size=1:=rfl;have z_sSm:sSm.size=1:=rfl;have y_sSm:(⟨#[59]⟩:ByteArray).size=1:=rfl;have hds:=xV hs;have HS:=Lib.hid hs;have hdx:(digs X).size<=21:=by
  have:=Lib.itoa_length_le X (by omega) hX1
  show(Lib.itoa X).toArray.size<=21
  simpa using this
 have HT:=Lib.hid ht;clear ht;have hroom:=zU hdr (by simp[flatT])
 have hfl:flatT (.mk ⟨d,1,s,X,0,a⟩ []) d=⟨d,1,s,X,0,a⟩::[]:=by simp[flatT,flatTs]
 rw[hfl,List.cons_append] at hdr;rw[hfl] at hroom;obtain⟨_,hat,hdr1⟩:=zt hdr
 simp only[List.length_cons,List.length_append,List.length_nil] at hroom;clear h hx hdr hdr1;rw[qZ];simp only[f0,f2];conv=>enter [2];simp only[yq1,yq0,seqL,seqR,Tryz.f57,Option.getD_some]
 go_wp2_with (first|(go_at_call 103;with_reducible refine WPost.go (zH C _ _ _ ⟨#[59]⟩ _ _ H6.out (by(try simp only[sz3,bytes_size]);omega) (by(try simp only[sz3,bytes_size]);omega) (by omega)) ?_;rintro w7 ⟨f7,hf,hw⟩ hm;have F7:=Lib.hid hf;have H7:=Lib.hid hw;have M7:=Lib.hid (M6.out.trans hm);have b7:=zg f7 hf;clear hf hw hm;obtain⟨-,-,y2,y3,-,-⟩:=(HX.out _ M7.out).cells;dsimp only at y2 y3)|(go_at_call 103;with_reducible refine WPost.go (zH C _ _ _ ⟨#[93]⟩ _ _ H5.out (by(try simp only[sz3,bytes_size]);omega) (by(try simp only[sz3,bytes_size]);omega) (by omega)) ?_;rintro w6 ⟨f6,hf,hw⟩ hm;have F6:=Lib.hid hf;have H6:=Lib.hid hw;have M6:=Lib.hid (M5.out.trans hm);have b6:=zg f6 hf;clear hf hw hm;obtain⟨-,-,y2,y3,-,-⟩:=(HX.out _ M6.out).cells;dsimp only at y2 y3)|(go_at_call 103;with_reducible refine WPost.go (zH C _ _ _ (digs X) _ _ H4.out (by(try simp only[sz3,bytes_size]);omega) (by(try simp only[sz3,bytes_size]);omega) (by omega)) ?_;rintro w5 ⟨f5,hf,hw⟩ hm;have F5:=Lib.hid hf;have H5:=Lib.hid hw;have M5:=Lib.hid (M4.out.trans hm);have b5:=zg f5 hf;clear hf hw hm;obtain⟨-,-,y2,y3,-,-⟩:=(HX.out _ M5.out).cells;dsimp only at y2 y3)|(go_at_call 104;refine(uY X hX0 hX1 _ (HT.out.kin H3.out.kin)).mono ?_;rintro e w4 ⟨rfl,k2⟩;have H4:=Lib.hid (H3.out.of_kin k2);have M4:=Lib.hid (M3.out.trans (Wm.of_kin k2));clear k2;obtain⟨-,-,y2,y3,-,-⟩:=(HX.out _ M4.out).cells;dsimp only at y2 y3)|(go_at_call 103;with_reducible refine WPost.go (zH C _ _ _ ⟨#[91]⟩ _ _ H2.out (by(try simp only[sz3,bytes_size]);omega) (by(try simp only[sz3,bytes_size]);omega) (by omega)) ?_;rintro w3 ⟨f3,hf,hw⟩ hm;have F3:=Lib.hid hf;have H3:=Lib.hid hw;have M3:=Lib.hid (M2.out.trans hm);have b3:=zg f3 hf;clear hf hw hm;obtain⟨-,-,y2,y3,-,-⟩:=(HX.out _ M3.out).cells;dsimp only at y2 y3)|(go_at_call 103;with_reducible refine WPost.go (zH C _ _ _ s _ _ H1.out (by(try simp only[sz3,bytes_size]);omega) (by(try simp only[sz3,bytes_size]);omega) (by omega)) ?_;rintro w2 ⟨f2,hf,hw⟩ hm;have F2:=Lib.hid hf;have H2:=Lib.hid hw;have M2:=Lib.hid (M1.out.trans hm);have b2:=zg f2 hf;clear hf hw hm;obtain⟨-,-,y2,y3,-,-⟩:=(HX.out _ M2.out).cells;dsimp only at y2 y3)|(go_at_call 102;refine WPost.go (zW C at_ u T kArr pl _ H0.out hat (by omega) (by omega) (by omega)) ?_;rintro w1 ⟨f1,hf,hw⟩ hm;have F1:=Lib.hid hf;have H1:=Lib.hid hw;have M1:=Lib.hid hm;have b1:=zg f1 hf;clear hf hw hm;obtain⟨-,-,y2,y3,-,-⟩:=(HX.out _ M1.out).cells;dsimp only at y2 y3));have hpl:=H0.out.hl;exact⟨rfl, .tuple #[],by simp[results,Tryz.f57],HQ.out _ ⟨[(f1,kArr),(f2,s),(f3,sLb),(f5,digs X),(f6,sRb),(f7,sSm)],leafT 1 s X 0 ((T.size+f1.length:Nat):Int) [],u+6,(fun ts m ts' hW=>by
  have hW2:W .p (T.size+f1.length+5+f2.length+s.size+f3.length+1+f5.length+(digs X).size+f6.length+1+f7.length+1) ts m ts':=by
   have e:T.size+szOf [(f1,kArr),(f2,s),(f3,sLb),(f5,digs X),(f6,sRb),(f7,sSm)]=T.size+f1.length+5+f2.length+s.size+f3.length+1+f5.length+(digs X).size+f6.length+1+f7.length+1:=by simp only[zq,show szOf []=0 from rfl];omega
   rw[<-e];exact hW
  exact .arr F1.out F2.out F3.out F5.out F6.out F7.out HS.out (zdR hX0 hX1) hW2),(by rw[hfl];simp only[zq,szOf_append,List.length_cons,List.length_append,List.length_nil,show szOf []=0 from rfl];try omega),(by rw[hfl];simp only[List.length_cons,List.length_append,List.length_nil];try omega),by simp[flatT,flatTs,leafT],H7.out.cast (by rw[hfl];simp only[List.length_cons,List.length_append,List.length_nil];try omega) (by simp only[zE,zN,List.cons_append,List.nil_append,List.append_assoc];try rfl) (by rw[show((T.size:Int)+(f1.length:Int))=(⟨d,1,s,X,0,((T.size+f1.length:Nat):Int)⟩:Nd).at_ from rfl,xZ (by omega)];simp[flatT,flatTs,leafT])⟩ M7.out⟩
theorem zcl(C:WCx)(at_ u:Nat)(T:ByteArray)(pl:List Int)(w:World)(h:Wr C w at_ u T pl)(x:Nat)(d a:Int)(e b:Tr)(hx:NdAt w x ⟨d,8,za,0,0,a⟩)(hxr:x≠C.r)(hxg:x≠C.g)(I0:yS C e)(I1:SOk 106 .b C b)(rest:List Nd)(hdr:C.ns.drop at_=flatT (.mk ⟨d,8,za,0,0,a⟩ [e,b]) d++rest)(hrest:RestOk rest d)(hd0:0<=d)(hd1:d+(((flatT e (d+1)).length:Int)+((flatT b (d+1)).length:Int))<=1999)(hu:u+8*((flatT e (d+1)).length+(flatT b (d+1)).length)<=799996)(hT:T.size+208*((flatT e (d+1)).length+(flatT b (d+1)).length)<=799900)(F:Nat->Value)(f0:F 0= .pointer (some ⟨C.r,0,none⟩))(f2:F 2= .pointer (some ⟨x,0,none⟩))(R:Ending->World->Prop)
 (HQ:Hid (∀w',SP C at_ u T pl .s (.mk ⟨d,8,za,0,0,a⟩ [e,b]) d w'->Wm C w w'->R (.returned (.tuple #[])) w')):yq1.wp Tryz.prog (bodyPost Tryz.prog Tryz.f57 R) (frN 147 F) w:=by
 have H0:=Lib.hid h;have M0:Hid (Wm C w w):=Lib.hid (Wm.refl C w);have HX:Hid (∀w',Wm C w w'->NdAt w' x ⟨d,8,za,0,0,a⟩):=Lib.hid (fun w' m=>(m.block x (lt_of_block hx) hxr hxg).trans hx);obtain⟨x0,x1,x2,x3,x4,x5⟩:=hx.cells
 dsimp only at x0 x1 x2 x3 x4 x5
 have z_kWhl:kWhl.size=5:=rfl;have y_kWhl:(⟨#[119,104,105,108,101]⟩:ByteArray).size=5:=rfl;have hroom:=zU hdr (by simp[flatT])
 have hfl:flatT (.mk ⟨d,8,za,0,0,a⟩ [e,b]) d=⟨d,8,za,0,0,a⟩::(flatT e (d+1)++flatT b (d+1)):=by simp[flatT,flatTs]
 rw[hfl,List.cons_append] at hdr;rw[hfl] at hroom;obtain⟨_,hat,hdr1⟩:=zt hdr
 rw[List.append_assoc] at hdr1;have D0:=Lib.hid hdr1;have D1:=Lib.hid (xb hdr1);have J0:=Lib.hid I0;have J1:=Lib.hid I1;clear I0 I1;have RR1:=Lib.hid (qU hrest);simp only[List.length_cons,List.length_append,List.length_nil] at hroom;clear h hx hdr hdr1;rw[qZ];simp only[f0,f2];conv=>enter [2];simp only[yq1,yq0,seqL,seqR,Tryz.f57,Option.getD_some]
 go_wp2_with (first|(go_at_call 106;refine WPost.go (J1.out (d+1) _ _ _ _ _ _ H2.out D1.out RR1.out (by omega) (by omega) (by have:=Z2.out;have:=U2.out;(try simp only[sz3,bytes_size]);omega) (by have:=Z2.out;have:=U2.out;(try simp only[sz3,bytes_size]);omega)) ?_;rintro w3 ⟨l3,t3,u3,hW,hz,hu3,hw⟩ hm;have W3:=Lib.hid hW;have Z3:=Lib.hid hz;have U3:=Lib.hid hu3;have H3:=Lib.hid hw;have M3:=Lib.hid (M2.out.trans hm);clear hW hz hu3 hw hm;obtain⟨-,-,y2,y3,-,-⟩:=(HX.out _ M3.out).cells;dsimp only at y2 y3)|(go_at_call 105;refine WPost.go (J0.out 0 (by omega) (d+1) _ _ _ _ _ _ H1.out D0.out (by(try simp only[sz3,bytes_size]);omega) (by(try simp only[sz3,bytes_size]);omega)) ?_;rintro w2 ⟨l2,t2,u2,hW,hz,hu3,hw⟩ hm;have W2:=Lib.hid hW;have Z2:=Lib.hid hz;have U2:=Lib.hid hu3;have H2:=Lib.hid hw;have M2:=Lib.hid (M1.out.trans hm);clear hW hz hu3 hw hm;obtain⟨-,-,y2,y3,-,-⟩:=(HX.out _ M2.out).cells;dsimp only at y2 y3)|(go_at_call 102;refine WPost.go (zW C at_ u T kWhl pl _ H0.out hat (by omega) (by omega) (by omega)) ?_;rintro w1 ⟨f1,hf,hw⟩ hm;have F1:=Lib.hid hf;have H1:=Lib.hid hw;have M1:=Lib.hid hm;have b1:=zg f1 hf;clear hf hw hm;obtain⟨-,-,y2,y3,-,-⟩:=(HX.out _ M1.out).cells;dsimp only at y2 y3));have e2:=yg W2.out (d+1);have g2:=Z2.out;have k2:=U2.out;have e3:=yg W3.out (d+1);have g3:=Z3.out;have k3:=U3.out;have hpl:=H0.out.hl;exact⟨rfl, .tuple #[],by simp[results,Tryz.f57],HQ.out _ ⟨(f1,kWhl)::(l2++l3),leafT 8 za 0 0 ((T.size+f1.length:Nat):Int) [t2,t3],u3, .while F1.out (by have:=W2.out;simp only[sz3,bytes_size] at this;exact this) (by have:=W3.out;simp only[sz3,bytes_size] at this;exact this),(by rw[hfl];simp only[zq,szOf_append,List.length_cons,List.length_append,List.length_nil,show szOf []=0 from rfl];try omega),(by rw[hfl];simp only[List.length_cons,List.length_append,List.length_nil];try omega),H3.out.cast (by rw[hfl];simp only[List.length_cons,List.length_append,List.length_nil];try omega) (by simp only[zE,zN,List.cons_append,List.nil_append,List.append_assoc];try rfl) (by rw[show((T.size:Int)+(f1.length:Int))=(⟨d,8,za,0,0,((T.size+f1.length:Nat):Int)⟩:Nd).at_ from rfl,vH e2 (by omega)];simp[flatT,flatTs,leafT])⟩ M3.out⟩
theorem zfr(C:WCx)(at_ u:Nat)(T:ByteArray)(pl:List Int)(w:World)(h:Wr C w at_ u T pl)(x:Nat)(d a:Int)(e b:Tr)(hx:NdAt w x ⟨d,7,za,0,0,a⟩)(hxr:x≠C.r)(hxg:x≠C.g)(I0:yS C e)(I1:SOk 106 .b C b)(rest:List Nd)(hdr:C.ns.drop at_=flatT (.mk ⟨d,7,za,0,0,a⟩ [e,b]) d++rest)(hrest:RestOk rest d)(hd0:0<=d)(hd1:d+(((flatT e (d+1)).length:Int)+((flatT b (d+1)).length:Int))<=1999)(hu:u+8*((flatT e (d+1)).length+(flatT b (d+1)).length)<=799996)(hT:T.size+208*((flatT e (d+1)).length+(flatT b (d+1)).length)<=799900)(F:Nat->Value)(f0:F 0= .pointer (some ⟨C.r,0,none⟩))(f2:F 2= .pointer (some ⟨x,0,none⟩))(R:Ending->World->Prop)
 (HQ:Hid (∀w',SP C at_ u T pl .s (.mk ⟨d,7,za,0,0,a⟩ [e,b]) d w'->Wm C w w'->R (.returned (.tuple #[])) w')):yq1.wp Tryz.prog (bodyPost Tryz.prog Tryz.f57 R) (frN 147 F) w:=by
 have H0:=Lib.hid h;have M0:Hid (Wm C w w):=Lib.hid (Wm.refl C w);have HX:Hid (∀w',Wm C w w'->NdAt w' x ⟨d,7,za,0,0,a⟩):=Lib.hid (fun w' m=>(m.block x (lt_of_block hx) hxr hxg).trans hx);obtain⟨x0,x1,x2,x3,x4,x5⟩:=hx.cells
 dsimp only at x0 x1 x2 x3 x4 x5
 have z_kIf:kIf.size=2:=rfl;have y_kIf:(⟨#[105,102]⟩:ByteArray).size=2:=rfl;have hroom:=zU hdr (by simp[flatT])
 have hfl:flatT (.mk ⟨d,7,za,0,0,a⟩ [e,b]) d=⟨d,7,za,0,0,a⟩::(flatT e (d+1)++flatT b (d+1)):=by simp[flatT,flatTs]
 rw[hfl,List.cons_append] at hdr;rw[hfl] at hroom;obtain⟨_,hat,hdr1⟩:=zt hdr
 rw[List.append_assoc] at hdr1;have D0:=Lib.hid hdr1;have D1:=Lib.hid (xb hdr1);have J0:=Lib.hid I0;have J1:=Lib.hid I1;clear I0 I1;have RR1:=Lib.hid (qU hrest);simp only[List.length_cons,List.length_append,List.length_nil] at hroom;clear h hx hdr hdr1;rw[qZ];simp only[f0,f2];conv=>enter [2];simp only[yq1,yq0,seqL,seqR,Tryz.f57,Option.getD_some]
 go_wp2_with (first|(go_at_call 106;refine WPost.go (J1.out (d+1) _ _ _ _ _ _ H2.out D1.out RR1.out (by omega) (by omega) (by have:=Z2.out;have:=U2.out;(try simp only[sz3,bytes_size]);omega) (by have:=Z2.out;have:=U2.out;(try simp only[sz3,bytes_size]);omega)) ?_;rintro w3 ⟨l3,t3,u3,hW,hz,hu3,hw⟩ hm;have W3:=Lib.hid hW;have Z3:=Lib.hid hz;have U3:=Lib.hid hu3;have H3:=Lib.hid hw;have M3:=Lib.hid (M2.out.trans hm);clear hW hz hu3 hw hm;obtain⟨-,-,y2,y3,-,-⟩:=(HX.out _ M3.out).cells;dsimp only at y2 y3)|(go_at_call 105;refine WPost.go (J0.out 0 (by omega) (d+1) _ _ _ _ _ _ H1.out D0.out (by(try simp only[sz3,bytes_size]);omega) (by(try simp only[sz3,bytes_size]);omega)) ?_;rintro w2 ⟨l2,t2,u2,hW,hz,hu3,hw⟩ hm;have W2:=Lib.hid hW;have Z2:=Lib.hid hz;have U2:=Lib.hid hu3;have H2:=Lib.hid hw;have M2:=Lib.hid (M1.out.trans hm);clear hW hz hu3 hw hm;obtain⟨-,-,y2,y3,-,-⟩:=(HX.out _ M2.out).cells;dsimp only at y2 y3)|(go_at_call 102;refine WPost.go (zW C at_ u T kIf pl _ H0.out hat (by omega) (by omega) (by omega)) ?_;rintro w1 ⟨f1,hf,hw⟩ hm;have F1:=Lib.hid hf;have H1:=Lib.hid hw;have M1:=Lib.hid hm;have b1:=zg f1 hf;clear hf hw hm;obtain⟨-,-,y2,y3,-,-⟩:=(HX.out _ M1.out).cells;dsimp only at y2 y3));obtain⟨a3,ha3⟩:∃a3:Nat,a3=at_+1+(flatT e (d+1)).length+(flatT b (d+1)).length:=⟨_,rfl⟩
 have HA:Hid (Wr C w3 a3 u3 _ _):=Lib.hid (by rw[ha3];exact H3.out)
 have DR:Hid (C.ns.drop a3=rest):=Lib.hid (by rw[ha3];exact xb D1.out)
 obtain⟨c0,c1,-,-,-,-⟩:=HA.out.cells
 have y0:=(HX.out _ M3.out).cells.1;dsimp only at y0
 have HA3:=Lib.hid ha3;clear ha3;have hns:=C.ns2;have ha0:(0:Int)<=(a3:Int):=by omega
 have hdd:IntKind.i64.wrap (d+1)=d+1:=Go.IntWalk.i64_in _ (by omega)
 have e2:=yg W2.out (d+1);have g2:=Z2.out;have k2:=U2.out;have e3:=yg W3.out (d+1);have g3:=Z3.out;have k3:=U3.out;have hpl:=H0.out.hl;rcases hrc:rest with _|⟨m,rest2⟩
 ·have hz:a3=C.ns.length:=by
   have:=DR.out
   rw[hrc] at this;have:=List.drop_eq_nil_iff.1 this
   have:=HA3.out
   omega
  have ha1:¬((a3:Int)<(C.ns.length:Int)):=by omega
  have ha2:decide ((a3:Int)<(C.ns.length:Int))=false:=decide_eq_false ha1;have ha4:¬(a3<C.ns.length):=by omega
  clear hz;refine wp_region_held_drew (S:=fun w'=>w'.cell? ⟨C.r,0,none⟩=some (.slice C.nb C.ns.length C.nc)/\w'.cell? ⟨C.r,1,none⟩=some (.int .i64 a3)/\w'.cell? ⟨x,0,none⟩=some (.int .i64 d)) (by kernel_rfl) ⟨c0,c1,y0⟩ (fun hHeld=>?_)
  refine tk 0 ?_;refine tk 1 ?_;refine tk 2 ?_;refine tk 3 ?_;refine tk 4 ?_;refine tk 5 ?_;refine tk 6 ?_;refine tk 7 ?_;refine tk 8 ?_;refine tk 9 ?_;refine tk 10 ?_;refine tu 11 ?_;refine tu 12 ?_;refine tu 13 ?_;refine tu 14 ?_;refine tu 15 ?_;refine tu 16 ?_;refine tu 17 ?_;refine tu 18 ?_;refine tu 19 ?_;refine tu 20 ?_;refine tu 21 ?_;refine tu 22 ?_;refine tk 23 ?_;refine tk 24 ?_;refine tu 25 ?_;refine tu 26 ?_;refine tu 27 ?_;refine tu 28 ?_;refine tu 29 ?_;refine tu 30 ?_;refine tu 31 ?_;refine tu 32 ?_;refine tu 33 ?_;refine tu 34 ?_;refine tu 35 ?_;refine tu 36 ?_;refine tu 37 ?_;refine tu 38 ?_;refine tu 39 ?_;refine tk 40 ?_;refine wpAnyH_done (by kernel_rfl) ?_ _
  go_wp2_with fail;exact⟨rfl, .tuple #[],by simp[results,Tryz.f57],HQ.out _ ⟨(f1,kIf)::(l2++l3),leafT 7 za 0 0 ((T.size+f1.length:Nat):Int) [t2,t3],u3, .if1 F1.out (by have:=W2.out;simp only[sz3,bytes_size] at this;exact this) (by have:=W3.out;simp only[sz3,bytes_size] at this;exact this),(by rw[hfl];simp only[zq,szOf_append,List.length_cons,List.length_append,List.length_nil,show szOf []=0 from rfl];try omega),(by rw[hfl];simp only[List.length_cons,List.length_append,List.length_nil];try omega),(H3.out.drew1).cast (by rw[hfl];simp only[List.length_cons,List.length_append,List.length_nil];try omega) (by simp only[zE,zN,List.cons_append,List.nil_append,List.append_assoc];try rfl) (by rw[show((T.size:Int)+(f1.length:Int))=(⟨d,7,za,0,0,((T.size+f1.length:Nat):Int)⟩:Nd).at_ from rfl,vH e2 (by omega)];simp[flatT,flatTs,leafT])⟩ (M3.out.trans ((Wm.refl C _).drew 1))⟩
 ·have hmd:=hrest m rest2 hrc;have hdd3:=DR.out;rw[hrc] at hdd3;have hne:¬(m.depth=d+1):=by omega
  have hne2:(m.depth==d+1)=false:=by simpa using hne
  by_cases hk9:m.kind=9
  ·have hk92:(m.kind==9)=true:=by simpa using hk9
   have hn3:C.ns[a3]? =some m:=(zt hdd3).1;have hlt3:a3<C.ns.length:=(zt hdd3).2.1;have ha1:(a3:Int)<(C.ns.length:Int):=by omega
   obtain⟨gn,off,hnb,hcell⟩:=HA.out.node hn3
   have n0:=hcell 0 _ rfl;have n1:=hcell 1 _ rfl;rw[Nat.add_zero] at n0;rw[hnb] at c0;clear hcell;refine wp_region_held_drew (S:=fun w'=>w'.cell? ⟨C.r,0,none⟩=some (.slice (some ⟨gn,off,none⟩) C.ns.length C.nc)/\w'.cell? ⟨C.r,1,none⟩=some (.int .i64 a3)/\w'.cell? ⟨x,0,none⟩=some (.int .i64 d)/\w'.cell? ⟨gn,off+a3*6,none⟩=some (.int .i64 m.depth)/\w'.cell? ⟨gn,off+a3*6+1,none⟩=some (.int .i64 m.kind)) (by kernel_rfl) ⟨c0,c1,y0,n0,n1⟩ (fun hHeld=>?_)
   refine tk 0 ?_;refine tk 1 ?_;refine tk 2 ?_;refine tk 3 ?_;refine tk 4 ?_;refine tk 5 ?_;refine tk 6 ?_;refine tk 7 ?_;refine tk 8 ?_;refine tk 9 ?_;refine tk 10 ?_;refine tk 11 ?_;refine tk 12 ?_;refine tk 13 ?_;refine tk 14 ?_;refine tk 15 ?_;refine tk 16 ?_;refine tk 17 ?_;refine tk 18 ?_;refine tk 19 ?_;refine tk 20 ?_;refine tk 21 ?_;refine tk 22 ?_;refine tk 23 ?_;refine tk 24 ?_;refine tk 25 ?_;refine tk 26 ?_;refine tk 27 ?_;refine tk 28 ?_;refine tk 29 ?_;refine tk 30 ?_;refine tk 31 ?_;refine tk 32 ?_;refine tk 33 ?_;refine tk 34 ?_;refine tk 35 ?_;refine tk 36 ?_;refine tk 37 ?_;refine tk 38 ?_;refine tk 39 ?_;refine tk 40 ?_;refine wpAnyH_done (by kernel_rfl) ?_ _
   go_wp2_with fail;exact⟨rfl, .tuple #[],by simp[results,Tryz.f57],HQ.out _ ⟨(f1,kIf)::(l2++l3),leafT 7 za 0 0 ((T.size+f1.length:Nat):Int) [t2,t3],u3, .if1 F1.out (by have:=W2.out;simp only[sz3,bytes_size] at this;exact this) (by have:=W3.out;simp only[sz3,bytes_size] at this;exact this),(by rw[hfl];simp only[zq,szOf_append,List.length_cons,List.length_append,List.length_nil,show szOf []=0 from rfl];try omega),(by rw[hfl];simp only[List.length_cons,List.length_append,List.length_nil];try omega),(H3.out.drew1).cast (by rw[hfl];simp only[List.length_cons,List.length_append,List.length_nil];try omega) (by simp only[zE,zN,List.cons_append,List.nil_append,List.append_assoc];try rfl) (by rw[show((T.size:Int)+(f1.length:Int))=(⟨d,7,za,0,0,((T.size+f1.length:Nat):Int)⟩:Nd).at_ from rfl,vH e2 (by omega)];simp[flatT,flatTs,leafT])⟩ (M3.out.trans ((Wm.refl C _).drew 1))⟩
  ·have hk92:(m.kind==9)=false:=by simpa using hk9
   have hn3:C.ns[a3]? =some m:=(zt hdd3).1;have hlt3:a3<C.ns.length:=(zt hdd3).2.1;have ha1:(a3:Int)<(C.ns.length:Int):=by omega
   obtain⟨gn,off,hnb,hcell⟩:=HA.out.node hn3
   have n0:=hcell 0 _ rfl;have n1:=hcell 1 _ rfl;rw[Nat.add_zero] at n0;rw[hnb] at c0;clear hcell;refine wp_region_held_drew (S:=fun w'=>w'.cell? ⟨C.r,0,none⟩=some (.slice (some ⟨gn,off,none⟩) C.ns.length C.nc)/\w'.cell? ⟨C.r,1,none⟩=some (.int .i64 a3)/\w'.cell? ⟨x,0,none⟩=some (.int .i64 d)/\w'.cell? ⟨gn,off+a3*6,none⟩=some (.int .i64 m.depth)/\w'.cell? ⟨gn,off+a3*6+1,none⟩=some (.int .i64 m.kind)) (by kernel_rfl) ⟨c0,c1,y0,n0,n1⟩ (fun hHeld=>?_)
   refine tk 0 ?_;refine tk 1 ?_;refine tk 2 ?_;refine tk 3 ?_;refine tk 4 ?_;refine tk 5 ?_;refine tk 6 ?_;refine tk 7 ?_;refine tk 8 ?_;refine tk 9 ?_;refine tk 10 ?_;refine tk 11 ?_;refine tk 12 ?_;refine tk 13 ?_;refine tk 14 ?_;refine tk 15 ?_;refine tk 16 ?_;refine tk 17 ?_;refine tk 18 ?_;refine tk 19 ?_;refine tk 20 ?_;refine tk 21 ?_;refine tk 22 ?_;refine tk 23 ?_;refine tk 24 ?_;refine tu 25 ?_;refine tu 26 ?_;refine tu 27 ?_;refine tu 28 ?_;refine tu 29 ?_;refine tu 30 ?_;refine tu 31 ?_;refine tu 32 ?_;refine tu 33 ?_;refine tu 34 ?_;refine tu 35 ?_;refine tu 36 ?_;refine tu 37 ?_;refine tu 38 ?_;refine tu 39 ?_;refine tk 40 ?_;refine wpAnyH_done (by kernel_rfl) ?_ _
   go_wp2_with fail;exact⟨rfl, .tuple #[],by simp[results,Tryz.f57],HQ.out _ ⟨(f1,kIf)::(l2++l3),leafT 7 za 0 0 ((T.size+f1.length:Nat):Int) [t2,t3],u3, .if1 F1.out (by have:=W2.out;simp only[sz3,bytes_size] at this;exact this) (by have:=W3.out;simp only[sz3,bytes_size] at this;exact this),(by rw[hfl];simp only[zq,szOf_append,List.length_cons,List.length_append,List.length_nil,show szOf []=0 from rfl];try omega),(by rw[hfl];simp only[List.length_cons,List.length_append,List.length_nil];try omega),(H3.out.drew1).cast (by rw[hfl];simp only[List.length_cons,List.length_append,List.length_nil];try omega) (by simp only[zE,zN,List.cons_append,List.nil_append,List.append_assoc];try rfl) (by rw[show((T.size:Int)+(f1.length:Int))=(⟨d,7,za,0,0,((T.size+f1.length:Nat):Int)⟩:Nd).at_ from rfl,vH e2 (by omega)];simp[flatT,flatTs,leafT])⟩ (M3.out.trans ((Wm.refl C _).drew 1))⟩
theorem jU(t:Tr)(d:Int):∃m l,flatT t d=m::l/\m.depth=d/\m.kind=zu t:=by
 obtain⟨n,us⟩:=t
 exact⟨{n with depth:=d},flatTs us (d+1),by rw[flatT],rfl,rfl⟩
theorem gm(t:Tr)(d:Int)(rest:List Nd):RestOk (flatT t d++rest) d:=fun m l e=>by
 obtain⟨m2,l2,e2,e3,_⟩:=jU t d
 rw[e2,List.cons_append] at e;simp only[List.cons.injEq] at e;rw[<-e.1,e3];exact Int.le_refl _
theorem zfq(C:WCx)(at_ u:Nat)(T:ByteArray)(pl:List Int)(w:World)(h:Wr C w at_ u T pl)(x:Nat)(d a:Int)(e b y:Tr)(hx:NdAt w x ⟨d,7,za,0,0,a⟩)(hxr:x≠C.r)(hxg:x≠C.g)(I0:yS C e)(I1:SOk 106 .b C b)(I2:SOk 106 .b C y)(hyk:zu y=9)(rest:List Nd)(hdr:C.ns.drop at_=flatT (.mk ⟨d,7,za,0,0,a⟩ [e,b,y]) d++rest)(hrest:RestOk rest d)(hd0:0<=d)(hd1:d+(((flatT e (d+1)).length:Int)+((flatT b (d+1)).length:Int)+((flatT y (d+1)).length:Int))<=1999)(hu:u+8*((flatT e (d+1)).length+(flatT b (d+1)).length+(flatT y (d+1)).length)<=799996)(hT:T.size+208*((flatT e (d+1)).length+(flatT b (d+1)).length+(flatT y (d+1)).length)<=799900)(F:Nat->Value)(f0:F 0= .pointer (some ⟨C.r,0,none⟩))(f2:F 2= .pointer (some ⟨x,0,none⟩))(R:Ending->World->Prop)
 (HQ:Hid (∀w',SP C at_ u T pl .s (.mk ⟨d,7,za,0,0,a⟩ [e,b,y]) d w'->Wm C w w'->R (.returned (.tuple #[])) w')):yq1.wp Tryz.prog (bodyPost Tryz.prog Tryz.f57 R) (frN 147 F) w:=by
 have H0:=Lib.hid h;have M0:Hid (Wm C w w):=Lib.hid (Wm.refl C w);have HX:Hid (∀w',Wm C w w'->NdAt w' x ⟨d,7,za,0,0,a⟩):=Lib.hid (fun w' m=>(m.block x (lt_of_block hx) hxr hxg).trans hx);obtain⟨x0,x1,x2,x3,x4,x5⟩:=hx.cells
 dsimp only at x0 x1 x2 x3 x4 x5
 have z_kEls:kEls.size=4:=rfl;have y_kEls:(⟨#[101,108,115,101]⟩:ByteArray).size=4:=rfl;have z_kIf:kIf.size=2:=rfl;have y_kIf:(⟨#[105,102]⟩:ByteArray).size=2:=rfl;have hroom:=zU hdr (by simp[flatT])
 have hfl:flatT (.mk ⟨d,7,za,0,0,a⟩ [e,b,y]) d=⟨d,7,za,0,0,a⟩::(flatT e (d+1)++(flatT b (d+1)++flatT y (d+1))):=by simp[flatT,flatTs]
 rw[hfl,List.cons_append] at hdr;rw[hfl] at hroom;obtain⟨_,hat,hdr1⟩:=zt hdr
 rw[List.append_assoc,List.append_assoc] at hdr1;have D0:=Lib.hid hdr1;have hdr2:=xb hdr1;have D1:=Lib.hid hdr2;have D2:=Lib.hid (xb hdr2);have J0:=Lib.hid I0;have J1:=Lib.hid I1;have J2:=Lib.hid I2;clear I0 I1 I2;have RR1:=Lib.hid (gm y (d+1) rest);have RR2:=Lib.hid (qU hrest);simp only[List.length_cons,List.length_append,List.length_nil] at hroom;clear h hx hdr hdr1;rw[qZ];simp only[f0,f2];conv=>enter [2];simp only[yq1,yq0,seqL,seqR,Tryz.f57,Option.getD_some]
 go_wp2_with (first|(go_at_call 106;refine WPost.go (J1.out (d+1) _ _ _ _ _ _ H2.out D1.out RR1.out (by omega) (by omega) (by have:=Z2.out;have:=U2.out;(try simp only[sz3,bytes_size]);omega) (by have:=Z2.out;have:=U2.out;(try simp only[sz3,bytes_size]);omega)) ?_;rintro w3 ⟨l3,t3,u3,hW,hz,hu3,hw⟩ hm;have W3:=Lib.hid hW;have Z3:=Lib.hid hz;have U3:=Lib.hid hu3;have H3:=Lib.hid hw;have M3:=Lib.hid (M2.out.trans hm);clear hW hz hu3 hw hm;obtain⟨-,-,y2,y3,-,-⟩:=(HX.out _ M3.out).cells;dsimp only at y2 y3)|(go_at_call 105;refine WPost.go (J0.out 0 (by omega) (d+1) _ _ _ _ _ _ H1.out D0.out (by(try simp only[sz3,bytes_size]);omega) (by(try simp only[sz3,bytes_size]);omega)) ?_;rintro w2 ⟨l2,t2,u2,hW,hz,hu3,hw⟩ hm;have W2:=Lib.hid hW;have Z2:=Lib.hid hz;have U2:=Lib.hid hu3;have H2:=Lib.hid hw;have M2:=Lib.hid (M1.out.trans hm);clear hW hz hu3 hw hm;obtain⟨-,-,y2,y3,-,-⟩:=(HX.out _ M2.out).cells;dsimp only at y2 y3)|(go_at_call 102;refine WPost.go (zW C at_ u T kIf pl _ H0.out hat (by omega) (by omega) (by omega)) ?_;rintro w1 ⟨f1,hf,hw⟩ hm;have F1:=Lib.hid hf;have H1:=Lib.hid hw;have M1:=Lib.hid hm;have b1:=zg f1 hf;clear hf hw hm;obtain⟨-,-,y2,y3,-,-⟩:=(HX.out _ M1.out).cells;dsimp only at y2 y3));obtain⟨a3,ha3⟩:∃a3:Nat,a3=at_+1+(flatT e (d+1)).length+(flatT b (d+1)).length:=⟨_,rfl⟩
 have HA:Hid (Wr C w3 a3 u3 _ _):=Lib.hid (by rw[ha3];exact H3.out)
 have DR:Hid (C.ns.drop a3=flatT y (d+1)++rest):=Lib.hid (by rw[ha3];exact D2.out)
 obtain⟨c0,c1,-,-,-,-⟩:=HA.out.cells
 have y0:=(HX.out _ M3.out).cells.1;dsimp only at y0
 have HA3:=Lib.hid ha3;clear ha3;have hns:=C.ns2;have ha0:(0:Int)<=(a3:Int):=by omega
 have hdd:IntKind.i64.wrap (d+1)=d+1:=Go.IntWalk.i64_in _ (by omega)
 obtain⟨m,l0,hm1,hm2,hm3⟩:=jU y (d+1)
 have hdd3:=DR.out;rw[hm1,List.cons_append] at hdd3;rw[hyk] at hm3;have hmd:(m.depth==d+1)=true:=by simpa using hm2
 have hk92:(m.kind==9)=true:=by simpa using hm3
 have hn3:C.ns[a3]? =some m:=(zt hdd3).1;have hlt3:a3<C.ns.length:=(zt hdd3).2.1;have ha1:(a3:Int)<(C.ns.length:Int):=by omega
 obtain⟨gn,off,hnb,hcell⟩:=HA.out.node hn3
 have n0:=hcell 0 _ rfl;have n1:=hcell 1 _ rfl;rw[Nat.add_zero] at n0;rw[hnb] at c0;clear hcell;have hmd2:=hm2;have hk9:=hm3;rw[hm2] at n0;rw[hm3] at n1;clear hdd3 hmd hk92 hm2 hm3 hmd2 hk9 hm1;refine wp_region_held_drew (S:=fun w'=>w'.cell? ⟨C.r,0,none⟩=some (.slice (some ⟨gn,off,none⟩) C.ns.length C.nc)/\w'.cell? ⟨C.r,1,none⟩=some (.int .i64 a3)/\w'.cell? ⟨x,0,none⟩=some (.int .i64 d)/\w'.cell? ⟨gn,off+a3*6,none⟩=some (.int .i64 (d+1))/\w'.cell? ⟨gn,off+a3*6+1,none⟩=some (.int .i64 9)) (by kernel_rfl) ⟨c0,c1,y0,n0,n1⟩ (fun hHeld=>?_)
 refine tk 0 ?_;refine tk 1 ?_;refine tk 2 ?_;refine tk 3 ?_;refine tk 4 ?_;refine tk 5 ?_;refine tk 6 ?_;refine tk 7 ?_;refine tk 8 ?_;refine tk 9 ?_;refine tk 10 ?_;refine tk 11 ?_;refine tk 12 ?_;refine tk 13 ?_;refine tk 14 ?_;refine tk 15 ?_;refine tk 16 ?_;refine tk 17 ?_;refine tk 18 ?_;refine tk 19 ?_;refine tk 20 ?_;refine tk 21 ?_;refine tk 22 ?_;refine tk 23 ?_;refine tk 24 ?_;refine tk 25 ?_;refine tk 26 ?_;refine tk 27 ?_;refine tk 28 ?_;refine tk 29 ?_;refine tk 30 ?_;refine tk 31 ?_;refine tk 32 ?_;refine tk 33 ?_;refine tk 34 ?_;refine tk 35 ?_;refine tk 36 ?_;refine tk 37 ?_;refine tk 38 ?_;refine tk 39 ?_;refine tk 40 ?_;refine wpAnyH_done (by kernel_rfl) ?_ _
 have H3:=Lib.hid H3.out.drew1;have M3:Hid (Wm C w w3.drew):=Lib.hid (M3.out.trans ((Wm.refl C _).drew 1));go_wp2_with (first|(go_at_call 106;refine WPost.go (J2.out (d+1) _ _ _ _ _ _ H4.out D2.out RR2.out (by omega) (by omega) (by have:=Z2.out;have:=U2.out;have:=Z3.out;have:=U3.out;(try simp only[sz3,bytes_size]);omega) (by have:=Z2.out;have:=U2.out;have:=Z3.out;have:=U3.out;(try simp only[sz3,bytes_size]);omega)) ?_;rintro w5 ⟨l5,t5,u5,hW,hz,hu3,hw⟩ hm;have W5:=Lib.hid hW;have Z5:=Lib.hid hz;have U5:=Lib.hid hu3;have H5:=Lib.hid hw;have M5:=Lib.hid (M4.out.trans hm);clear hW hz hu3 hw hm;obtain⟨-,-,y2,y3,-,-⟩:=(HX.out _ M5.out).cells;dsimp only at y2 y3)|(go_at_call 103;with_reducible refine WPost.go (zH C _ _ _ ⟨#[101,108,115,101]⟩ _ _ H3.out (by have:=Z2.out;have:=U2.out;have:=Z3.out;have:=U3.out;(try simp only[sz3,bytes_size]);omega) (by have:=Z2.out;have:=U2.out;have:=Z3.out;have:=U3.out;(try simp only[sz3,bytes_size]);omega) (by omega)) ?_;rintro w4 ⟨f4,hf,hw⟩ hm;have F4:=Lib.hid hf;have H4:=Lib.hid hw;have M4:=Lib.hid (M3.out.trans hm);have b4:=zg f4 hf;clear hf hw hm;obtain⟨-,-,y2,y3,-,-⟩:=(HX.out _ M4.out).cells;dsimp only at y2 y3));have e2:=yg W2.out (d+1);have g2:=Z2.out;have k2:=U2.out;have e3:=yg W3.out (d+1);have g3:=Z3.out;have k3:=U3.out;have e5:=yg W5.out (d+1);have g5:=Z5.out;have k5:=U5.out;have hpl:=H0.out.hl;exact⟨rfl, .tuple #[],by simp[results,Tryz.f57],HQ.out _ ⟨(f1,kIf)::(l2++(l3++(f4,kEls)::l5)),leafT 7 za 0 0 ((T.size+f1.length:Nat):Int) [t2,t3,t5],u5, .if2 F1.out F4.out (by have:=W2.out;simp only[sz3,bytes_size] at this;exact this) (by have:=W3.out;simp only[sz3,bytes_size] at this;exact this) (by have:=W5.out;simp only[sz3,bytes_size] at this;exact this),(by rw[hfl];simp only[zq,szOf_append,List.length_cons,List.length_append,List.length_nil,show szOf []=0 from rfl];try omega),(by rw[hfl];simp only[List.length_cons,List.length_append,List.length_nil];try omega),H5.out.cast (by rw[hfl];simp only[List.length_cons,List.length_append,List.length_nil];try omega) (by simp only[zE,zN,List.cons_append,List.nil_append,List.append_assoc];try rfl) (by rw[show((T.size:Int)+(f1.length:Int))=(⟨d,7,za,0,0,((T.size+f1.length:Nat):Int)⟩:Nd).at_ from rfl,zjz e2 e3 (by omega)];simp[flatT,flatTs,leafT])⟩ M5.out⟩
end Go.Proofs.YtonmcakdofbjiaaGreatDoor
