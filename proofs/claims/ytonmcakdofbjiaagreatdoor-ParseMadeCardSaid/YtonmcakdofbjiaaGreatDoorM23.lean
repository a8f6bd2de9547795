/- A part. -/
import Derived.Test.YtonmcakdofbjiaaGreatDoorM22
import Derived.Deep.LoopGhost
import Derived.Test.YtonmcakdofbjiaaGreatDoorM21
import Derived.Laws.MakeOwn
import Derived.Test.YtonmcakdofbjiaaGreatDoorM19
set_option linter.all false
set_option maxRecDepth 100000
set_option maxHeartbeats 8000000
namespace Go.Proofs.YtonmcakdofbjiaaGreatDoor
open Go.RowKit
theorem vv{i:Nat}{ts ts':List Tr}{l:List Pc}{tg:Tg}(h:W tg i ts l ts')(d:Int):(flatTs ts' d).length=(flatTs ts d).length:=by
 have:=congrArg List.length (kg h d)
 simpa [noAt] using this
theorem xa(t:Tr)(ts:List Tr)(d:Int):flatTs (t::ts) d=flatT t d++flatTs ts d:=by simp[flatTs]
theorem yd(ts:List Tr)(t:Tr)(d:Int):flatTs (ts++[t]) d=flatTs ts d++flatT t d:=by rw[zZ];simp[flatTs]
theorem uK(ts:List Tr)(d:Int)(rest:List Nd)(h:RestOk rest d):RestOk (flatTs ts d++rest) d:=by
 cases ts with
 |nil=>exact h
 |cons t ts=>rw[xa,List.append_assoc];exact gm t d _
theorem zh6(C:WCx)(us:List Tr)(d0 a:Int)(hst:∀t∈us,SOk 57 .s C t):SOk 106 .b C (.mk ⟨d0,9,za,0,0,a⟩ us):=by
 intro d rest at_ u T pl w h hdr hrest hd0 hd1 hu hT;have HS:=Lib.hid hst;have H:=Lib.hid h;have hroom:=zU hdr (by simp[flatT])
 have hfl:flatT (.mk ⟨d0,9,za,0,0,a⟩ us) d=⟨d,9,za,0,0,a⟩::flatTs us (d+1):=by simp[flatT]
 rw[hfl,List.cons_append] at hdr;rw[hfl] at hroom hd1 hu hT;simp only[List.length_cons] at hroom hd1 hu hT;obtain⟨hn,hat,hdr1⟩:=zt hdr
 have HD:=Lib.hid hdr1;have HR:=Lib.hid hrest;obtain⟨gn,off,hnb,hcell⟩:=h.node hn
 obtain⟨c0,c1,_,_,_,_⟩:=h.cells
 have n0:=hcell 0 _ rfl;rw[Nat.add_zero] at n0;rw[hnb] at c0;have hns:=C.ns2;have hat0:(0:Int)<=(at_:Int):=by omega
 have hat1:(at_:Int)<(C.ns.length:Int):=by omega
 have hpl:=h.hl;have z1:(⟨#[123]⟩:ByteArray).size=1:=rfl;have z2:(⟨#[125]⟩:ByteArray).size=1:=rfl;have HFL:=Lib.hid hfl;generalize hlen:(flatTs us (d+1)).length=ln at hroom hd1 hu hT;have HLEN:=Lib.hid hlen;clear h hst hdr hdr1 hrest hn hcell hfl hlen;go_enter Tryz.func106,Tryz.ntmps106;go_wp2_with fail;refine wp_region_held_drew (S:=fun w'=>w'.cell? ⟨C.r,0,none⟩=some (.slice (some ⟨gn,off,none⟩) C.ns.length C.nc)/\w'.cell? ⟨C.r,1,none⟩=some (.int .i64 at_)/\w'.cell? ⟨gn,off+at_*6,none⟩=some (.int .i64 d)) (by kernel_rfl) ⟨c0,c1,n0⟩ (fun hHeld=>?_)
 refine tk 0 ?_;refine tk 1 ?_;refine tk 2 ?_;refine tk 3 ?_;refine tk 4 ?_;refine tk 5 ?_;refine tk 6 ?_;refine tk 7 ?_;refine tk 8 ?_;refine tk 9 ?_;refine tk 10 ?_;refine tk 11 ?_;refine wpAnyH_done (by kernel_rfl) ?_ _
 clear hHeld c0 c1 n0;go_wp2_with (go_at_call 102;with_reducible refine WPost.go (zW C at_ u T ⟨#[123]⟩ pl _ H.out.drew1 hat (by omega) (by omega) (by omega)) ?_;rintro w1 ⟨f,hf,hw⟩ hm;have HF:=Lib.hid hf;have H1:=Lib.hid hw;have M1:=Lib.hid hm;have b1:=zg f hf;clear hf hw hm);have M1b:Hid (Wm C w w1):=Lib.hid ((((Wm.refl C w).drew 1)).trans M1.out);go_loopg [] us.length (fun gg wr=>∃(ts1 ts2:List Tr) (l:List Pc) (ts1':List Tr) (uk:Nat),us=ts1++ts2/\gg=ts2.length/\W .ss (T++⟨f.toArray⟩++⟨#[123]⟩).size ts1 l ts1'/\Wr C wr (at_+1+(flatTs ts1 (d+1)).length) uk (T++⟨f.toArray⟩++⟨#[123]⟩++zR l) (plW (pl.set at_ ((T.size:Int)+(f.length:Int))) (at_+1) (flatTs ts1' (d+1)))/\szOf l<=208*(flatTs ts1 (d+1)).length/\uk<=u+1+8*(flatTs ts1 (d+1)).length/\Wm C w wr)
 case atStart=>
  refine⟨[],us,[],[],u+1,rfl,rfl, .nil,?_,by simp[szOf,bytesOf],by simp[flatTs],M1b.out⟩
  exact H1.out.cast (by simp[flatTs]) (by apply ByteArray.ext;apply Array.ext';simp[zR,bytesOf]) (by simp[plW,flatTs,List.take_append_drop])
 case round=>
  obtain⟨ts1,ts2,l,ts1',uk,hus,hgg,hW,hw,hz,huk,hm⟩:=hrel
  have HUS:=Lib.hid hus;have HG:=Lib.hid hgg;have HW:=Lib.hid hW;have HA0:=Lib.hid hw;have HZ:=Lib.hid hz;have HUK:=Lib.hid huk;have HM:=Lib.hid hm;have hd2:C.ns.drop (at_+1+(flatTs ts1 (d+1)).length)=flatTs ts2 (d+1)++rest:=by
   have:=HD.out
   rw[hus,zZ,List.append_assoc] at this;exact xb this
  have hsum:(flatTs ts1 (d+1)).length+(flatTs ts2 (d+1)).length=ln:=by
   have:=HLEN.out
   rw[hus,zZ,List.length_append] at this;exact this
  clear hus hgg hW hw hz huk hm M1b H1 H;obtain⟨a3,ha3⟩:∃a3:Nat,a3=at_+1+(flatTs ts1 (d+1)).length:=⟨_,rfl⟩
  have HA:Hid (Wr C wr a3 uk _ _):=Lib.hid (by rw[ha3];exact HA0.out)
  have DR:Hid (C.ns.drop a3=flatTs ts2 (d+1)++rest):=Lib.hid (by rw[ha3];exact hd2)
  obtain⟨c0,c1,-,-,-,-⟩:=HA.out.cells
  have HA3:=Lib.hid ha3;have ha0:(0:Int)<=(a3:Int):=by omega
  have hdd:IntKind.i64.wrap (d+1)=d+1:=Go.IntWalk.i64_in _ (by omega)
  clear ha3 hd2;cases ts2 with
  |cons t ts3=>
   obtain⟨m,l0,hm1,hm2,_⟩:=jU t (d+1)
   have hdd3:=DR.out;rw[xa,hm1,List.append_assoc,List.cons_append] at hdd3;have hn3:C.ns[a3]? =some m:=(zt hdd3).1;have hlt3:a3<C.ns.length:=(zt hdd3).2.1;have ha1:(a3:Int)<(C.ns.length:Int):=by omega
   obtain⟨g2,o2,hnb2,hcell⟩:=HA.out.node hn3
   have n0:=hcell 0 _ rfl;rw[Nat.add_zero,hm2] at n0;rw[hnb2] at c0;clear hcell hdd3 hm1 hm2 hn3;go_wp2_with fail;refine wp_region_held_drew (S:=fun w'=>w'.cell? ⟨C.r,0,none⟩=some (.slice (some ⟨g2,o2,none⟩) C.ns.length C.nc)/\w'.cell? ⟨C.r,1,none⟩=some (.int .i64 a3)/\w'.cell? ⟨g2,o2+a3*6,none⟩=some (.int .i64 (d+1))) (by kernel_rfl) ⟨c0,c1,n0⟩ (fun hHeld=>?_)
   refine tk 0 ?_;refine tk 1 ?_;refine tk 2 ?_;refine tk 3 ?_;refine tk 4 ?_;refine tk 5 ?_;refine tk 6 ?_;refine tk 7 ?_;refine tk 8 ?_;refine tk 9 ?_;refine tk 10 ?_;refine tk 11 ?_;refine tk 12 ?_;refine tk 13 ?_;refine tk 14 ?_;refine tk 15 ?_;refine tk 16 ?_;refine tk 17 ?_;refine tk 18 ?_;refine tk 19 ?_;refine tk 20 ?_;refine tk 21 ?_;refine tk 22 ?_;refine tk 23 ?_;refine tk 24 ?_;refine tk 25 ?_;refine wpAnyH_done (by kernel_rfl) ?_ _
   clear hHeld c0 c1 n0;have hsum2:(flatTs ts1 (d+1)).length+((flatT t (d+1)).length+(flatTs ts3 (d+1)).length)=ln:=by
    rw[xa,List.length_append] at hsum;exact hsum
   go_wp2_with (go_at_call 57;refine WPost.go (HS.out t (by rw[HUS.out];simp) (d+1) (flatTs ts3 (d+1)++rest) a3 uk _ _ _ HA.out.drew1 (by have:=DR.out;rw[xa,List.append_assoc] at this;exact this) (uK ts3 (d+1) rest (qU HR.out)) (by omega) (by omega) (by have:=HUK.out;omega) (by rw[bytes_size,sz3];have:=HZ.out;omega)) ?_;rintro w2 ⟨l2,t2,u2,hW2,hz2,hu2,hw2⟩ hm2;have HW2:=Lib.hid hW2;have HZ2:=Lib.hid hz2;have HU2:=Lib.hid hu2;have H2:=Lib.hid hw2;have M2:=Lib.hid (HM.out.trans (((Wm.refl C wr).drew 1).trans hm2));clear hW2 hz2 hu2 hw2 hm2);go_roundg ts3.length
   case measure=>have:=HG.out;simp only[List.length_cons] at this;omega
   case rel=>
    have hz:=HZ.out;have hz2:=HZ2.out;have huk:=HUK.out;have hu2:=HU2.out;have ha3:=HA3.out;have hl1:=vv HW.out (d+1);have hl2:=yg HW2.out (d+1);refine⟨ts1++[t],ts3,l++l2,ts1'++[t2],u2,by rw[HUS.out];simp,rfl,zbQ HW.out rfl (by have:=HW2.out;rw[bytes_size] at this;exact this),H2.out.cast ?_ ?_ ?_,?_,?_,M2.out⟩
    ·rw[yd,List.length_append];omega
    ·simp only[zN]
    ·rw[yd,<-qw (by rw[List.length_set,List.length_append];omega),hl1,ha3]
    ·rw[szOf_append,yd,List.length_append];omega
    ·rw[yd,List.length_append];omega
  |nil=>
   have hus:us=ts1:=by have:=HUS.out;simpa using this
   have hsum2:(flatTs ts1 (d+1)).length=ln:=by simpa [flatTs] using hsum
   rw[hnb] at c0;rcases hrc:rest with _|⟨m,rest2⟩
   ·have hz3:a3=C.ns.length:=by
     have:=DR.out
     rw[hrc] at this;have:=List.drop_eq_nil_iff.1 (by simpa [flatTs] using this)
     have:=HA3.out
     omega
    have ha1:¬((a3:Int)<(C.ns.length:Int)):=by omega
    have ha2:decide ((a3:Int)<(C.ns.length:Int))=false:=decide_eq_false ha1;have ha4:¬(a3<C.ns.length):=by omega
    clear hz3 hus;go_wp2_with fail;refine wp_region_held_drew (S:=fun w'=>w'.cell? ⟨C.r,0,none⟩=some (.slice (some ⟨gn,off,none⟩) C.ns.length C.nc)/\w'.cell? ⟨C.r,1,none⟩=some (.int .i64 a3)) (by kernel_rfl) ⟨c0,c1⟩ (fun hHeld=>?_)
    refine tk 0 ?_;refine tk 1 ?_;refine tk 2 ?_;refine tk 3 ?_;refine tk 4 ?_;refine tk 5 ?_;refine tk 6 ?_;refine tk 7 ?_;refine tk 8 ?_;refine tk 9 ?_;refine tk 10 ?_;refine tu 11 ?_;refine tu 12 ?_;refine tu 13 ?_;refine tu 14 ?_;refine tu 15 ?_;refine tu 16 ?_;refine tu 17 ?_;refine tu 18 ?_;refine tu 19 ?_;refine tu 20 ?_;refine tu 21 ?_;refine tu 22 ?_;refine tu 23 ?_;refine tu 24 ?_;refine tk 25 ?_;refine wpAnyH_done (by kernel_rfl) ?_ _
    clear hHeld c0 c1;go_wp2_with (go_at_call 103;with_reducible refine WPost.go (zH C _ _ _ ⟨#[125]⟩ _ _ HA.out.drew1 (by have:=HUK.out;omega) (by rw[bytes_size,sz3];have:=HZ.out;omega) (by omega)) ?_;rintro w2 ⟨g,hf2,hw2⟩ hm2;have HF2:=Lib.hid hf2;have H2:=Lib.hid hw2;have b2:=zg g hf2;have M2:=Lib.hid hm2;clear hf2 hw2 hm2);have hz:=HZ.out;have huk:=HUK.out;have ha3:=HA3.out;have hus:us=ts1:=by have:=HUS.out;simpa using this
    have hl1:=vv HW.out (d+1);have hfl:=HFL.out;have hlen:=HLEN.out;have e1:sLc.size=1:=rfl;have e2:sRc.size=1:=rfl;exact⟨rfl, .tuple #[],by simp[results,Tryz.f106],rfl,⟨(f,sLc)::(l++[(g,sRc)]),leafT 9 za 0 0 ((T.size+f.length:Nat):Int) ts1',uk+1, .blk HF.out HF2.out (by have:=HW.out;rw[sz3] at this;rw[hus];exact this),by rw[hfl];simp only[zq,szOf_append,List.length_cons,show szOf []=0 from rfl];omega,by rw[hfl];simp only[List.length_cons];omega,H2.out.cast (by rw[hfl];simp only[List.length_cons];omega) (by simp only[zE,zN,List.cons_append,List.nil_append,List.append_assoc];rfl) (by rw[show((T.size:Int)+(f.length:Int))=(⟨d,9,za,0,0,((T.size+f.length:Nat):Int)⟩:Nd).at_ from rfl,qp (by omega)];simp[flatT,leafT])⟩,HM.out.trans (((Wm.refl C wr).drew 1).trans M2.out)⟩
   ·have hmd:=HR.out m rest2 hrc;have hdd3:=DR.out;rw[hrc] at hdd3;simp only[flatTs,List.nil_append] at hdd3;have hne:¬(m.depth=d+1):=by omega
    have hne2:(m.depth==d+1)=false:=by simpa using hne
    have hn3:C.ns[a3]? =some m:=(zt hdd3).1;have hlt3:a3<C.ns.length:=(zt hdd3).2.1;have ha1:(a3:Int)<(C.ns.length:Int):=by omega
    obtain⟨g2,o2,hnb2,hcell⟩:=HA.out.node hn3
    rw[hnb] at hnb2;simp only[Option.some.injEq,Addr.mk.injEq,and_true] at hnb2;obtain⟨rfl,rfl⟩:=hnb2
    have n0:=hcell 0 _ rfl;rw[Nat.add_zero] at n0;clear hcell hdd3 hn3 hus;go_wp2_with fail;refine wp_region_held_drew (S:=fun w'=>w'.cell? ⟨C.r,0,none⟩=some (.slice (some ⟨gn,off,none⟩) C.ns.length C.nc)/\w'.cell? ⟨C.r,1,none⟩=some (.int .i64 a3)/\w'.cell? ⟨gn,off+a3*6,none⟩=some (.int .i64 m.depth)) (by kernel_rfl) ⟨c0,c1,n0⟩ (fun hHeld=>?_)
    refine tk 0 ?_;refine tk 1 ?_;refine tk 2 ?_;refine tk 3 ?_;refine tk 4 ?_;refine tk 5 ?_;refine tk 6 ?_;refine tk 7 ?_;refine tk 8 ?_;refine tk 9 ?_;refine tk 10 ?_;refine tk 11 ?_;refine tk 12 ?_;refine tk 13 ?_;refine tk 14 ?_;refine tk 15 ?_;refine tk 16 ?_;refine tk 17 ?_;refine tk 18 ?_;refine tk 19 ?_;refine tk 20 ?_;refine tk 21 ?_;refine tk 22 ?_;refine tk 23 ?_;refine tk 24 ?_;refine tk 25 ?_;refine wpAnyH_done (by kernel_rfl) ?_ _
    clear hHeld c0 c1 n0;go_wp2_with (go_at_call 103;with_reducible refine WPost.go (zH C _ _ _ ⟨#[125]⟩ _ _ HA.out.drew1 (by have:=HUK.out;omega) (by rw[bytes_size,sz3];have:=HZ.out;omega) (by omega)) ?_;rintro w2 ⟨g,hf2,hw2⟩ hm2;have HF2:=Lib.hid hf2;have H2:=Lib.hid hw2;have b2:=zg g hf2;have M2:=Lib.hid hm2;clear hf2 hw2 hm2);have hz:=HZ.out;have huk:=HUK.out;have ha3:=HA3.out;have hus:us=ts1:=by have:=HUS.out;simpa using this
    have hl1:=vv HW.out (d+1);have hfl:=HFL.out;have hlen:=HLEN.out;have e1:sLc.size=1:=rfl;have e2:sRc.size=1:=rfl;exact⟨rfl, .tuple #[],by simp[results,Tryz.f106],rfl,⟨(f,sLc)::(l++[(g,sRc)]),leafT 9 za 0 0 ((T.size+f.length:Nat):Int) ts1',uk+1, .blk HF.out HF2.out (by have:=HW.out;rw[sz3] at this;rw[hus];exact this),by rw[hfl];simp only[zq,szOf_append,List.length_cons,show szOf []=0 from rfl];omega,by rw[hfl];simp only[List.length_cons];omega,H2.out.cast (by rw[hfl];simp only[List.length_cons];omega) (by simp only[zE,zN,List.cons_append,List.nil_append,List.append_assoc];rfl) (by rw[show((T.size:Int)+(f.length:Int))=(⟨d,9,za,0,0,((T.size+f.length:Nat):Int)⟩:Nd).at_ from rfl,qp (by omega)];simp[flatT,leafT])⟩,HM.out.trans (((Wm.refl C wr).drew 1).trans M2.out)⟩
theorem yN{t:Tr}{d d1 k1 x1 o1 a1:Int}{m1:ByteArray}{us:List Tr}(e:Tr.mk ⟨d1,k1,m1,x1,o1,a1⟩ us=dep t d):∃d0,t= .mk ⟨d0,k1,m1,x1,o1,a1⟩ us:=by
 obtain⟨⟨d0,a2,a3,a4,a5,a6⟩,us2⟩:=t
 simp only[dep,Tr.mk.injEq,Nd.mk.injEq] at e;obtain⟨⟨-,rfl,rfl,rfl,rfl,rfl⟩,rfl⟩:=e
 exact⟨d0,rfl⟩
theorem zdv{i:Nat}{t0:Tr}{ts':List Tr}{l:List Pc}(h:W .s i [t0] l ts'):∀t (d:Int),t0=dep t d->W .s i [t] l ts':=by
 intro t d e;cases h with
 |assign hf hg hh hs he=>obtain⟨d0,rfl⟩:=yN e;exact .assign hf hg hh hs he
 |store hf hg hh hh2 hh3 hs hx hy=>obtain⟨d0,rfl⟩:=yN e;exact .store hf hg hh hh2 hh3 hs hx hy
 |input hf hg hh hs=>obtain⟨d0,rfl⟩:=yN e;exact .input hf hg hh hs
 |assert hf hh he=>obtain⟨d0,rfl⟩:=yN e;exact .assert hf hh he
 |skip hf hh=>obtain⟨d0,rfl⟩:=yN e;exact .skip hf hh
 |if1 hf he hx=>obtain⟨d0,rfl⟩:=yN e;exact .if1 hf he hx
 |if2 hf hg he hx hy=>obtain⟨d0,rfl⟩:=yN e;exact .if2 hf hg he hx hy
 | «while» hf he hx=>obtain⟨d0,rfl⟩:=yN e;exact .while hf he hx
theorem zis{i:Nat}{t:Tr}{d:Int}{ts ts':List Tr}{l:List Pc}(h:W .p i (dep t d::ts) l ts'):W .p i (t::ts) l ts':=by
 generalize he:dep t d::ts=us at h;cases h with
 |sts h=>
  cases h with
  |nil=>cases he
  |cons h1 h2=>
   simp only[List.cons.injEq] at he;obtain⟨e1,rfl⟩:=he
   exact .sts (.cons (zdv h1 t d e1.symm) h2)
 |var hf hg hh hs h2=>
  simp only[List.cons.injEq] at he;obtain⟨e1,rfl⟩:=he
  obtain⟨d0,rfl⟩:=yN e1.symm
  exact .var hf hg hh hs h2
 |arr hf hg hh hh2 hh3 hh4 hs hn h5=>
  simp only[List.cons.injEq] at he;obtain⟨e1,rfl⟩:=he
  obtain⟨d0,rfl⟩:=yN e1.symm
  exact .arr hf hg hh hh2 hh3 hh4 hs hn h5
theorem SP.dep{C:WCx}{at_ u:Nat}{T:ByteArray}{pl:List Int}{t:Tr}{d:Int}{w:World}(h:SP C at_ u T pl .s (dep t d) d w):SP C at_ u T pl .s t d w:=by
 obtain⟨l,t',u',h1,h2,h3,h4⟩:=h
 rw[flat_dep] at h2 h3 h4;exact⟨l,t',u',zdv h1 t d rfl,h2,h3,h4⟩
theorem DP.dep{C:WCx}{at_ u:Nat}{T:ByteArray}{pl:List Int}{t:Tr}{d:Int}{w:World}(h:DP C at_ u T pl (dep t d) d w):DP C at_ u T pl t d w:=by
 obtain⟨l,t',u',h1,h2,h3,h4,h5⟩:=h
 rw[flat_dep] at h2 h3 h4 h5;exact⟨l,t',u',fun ts m ts' hw=>zis (h1 ts m ts' hw),h2,h3,h4,h5⟩
theorem kid_if{us:List Tr}(h:Kid 7 0 us):(∃e b,us=[e,b]/\(Vt e/\ze (zu e)=true)/\Vt b/\zu b=9)\/(∃e b y,us=[e,b,y]/\(Vt e/\ze (zu e)=true)/\(Vt b/\zu b=9)/\Vt y/\zu y=9):=by
 rcases kid_cases h with⟨_,hl⟩|⟨t,ks,rfl,hr,hv,hk2⟩
 ·exact absurd hl (by decide)
 ·rcases kid_cases hk2 with⟨_,hl⟩|⟨t2,ks2,rfl,hr2,hv2,hk3⟩
  ·exact absurd hl (by decide)
  ·have r1:ze (zu t)=true:=by simpa [rholds,rwants] using hr
   have r2:zu t2=9:=by simpa [rholds,rwants] using hr2
   rcases kid_cases hk3 with⟨rfl,_⟩|⟨t3,ks3,rfl,hr3,hv3,hk4⟩
   ·exact .inl ⟨t,t2,rfl,⟨hv,r1⟩,hv2,r2⟩
   ·have r3:zu t3=9:=by simpa [rholds,rwants] using hr3
    rcases kid_cases hk4 with⟨rfl,_⟩|⟨t4,ks4,rfl,hr4,_,_⟩
    ·exact .inr ⟨t,t2,t3,rfl,⟨hv,r1⟩,⟨hv2,r2⟩,hv3,r3⟩
    ·simp[rholds,rwants] at hr4
theorem kid_while{us:List Tr}(h:Kid 8 0 us):∃e b,us=[e,b]/\(Vt e/\ze (zu e)=true)/\Vt b/\zu b=9:=by
 rcases kid_cases h with⟨_,hl⟩|⟨t,ks,rfl,hr,hv,hk2⟩
 ·exact absurd hl (by decide)
 ·rcases kid_cases hk2 with⟨_,hl⟩|⟨t2,ks2,rfl,hr2,hv2,hk3⟩
  ·exact absurd hl (by decide)
  ·have r1:ze (zu t)=true:=by simpa [rholds,rwants] using hr
   have r2:zu t2=9:=by simpa [rholds,rwants] using hr2
   rcases kid_cases hk3 with⟨rfl,_⟩|⟨t3,ks3,rfl,hr3,hv3,hk4⟩
   ·exact⟨t,t2,rfl,⟨hv,r1⟩,hv2,r2⟩
   ·simp[rholds,rwants] at hr3
theorem kid_blk:∀(us:List Tr) (h:Int),Kid 9 h us->∀t∈us,Vt t/\zx (zu t)=true
 |[],_,_,t,ht=>by cases ht
 |u::us,h,hk,t,ht=>by
  rcases kid_cases hk with⟨e,_⟩|⟨t2,ks,e,hr,hv,hk2⟩
  ·cases e
  ·simp only[List.cons.injEq] at e;obtain⟨rfl,rfl⟩:=e
   rcases List.mem_cons.1 ht with rfl|ht
   ·exact⟨hv,by simpa [rholds] using hr⟩
   ·exact kid_blk us _ hk2 t ht
inductive SNode:Nd->List Tr->Prop
 |assign {d s a e} (hs:nameableB s=true) (hv:Vt e) (he:ze (zu e)=true):SNode ⟨d,2,s,0,0,a⟩ [e]
 |store {d s a e y} (hs:nameableB s=true) (hv:Vt e) (he:ze (zu e)=true) (hv2:Vt y) (he2:ze (zu y)=true):SNode ⟨d,3,s,0,0,a⟩ [e,y]
 |input {d s a} (hs:nameableB s=true):SNode ⟨d,4,s,0,0,a⟩ []
 |assert {d a e} (hv:Vt e) (he:ze (zu e)=true):SNode ⟨d,5,za,0,0,a⟩ [e]
 |skip {d a}:SNode ⟨d,6,za,0,0,a⟩ []
 |if1 {d a e b} (hv:Vt e) (he:ze (zu e)=true) (hb:Vt b) (hb9:zu b=9):SNode ⟨d,7,za,0,0,a⟩ [e,b]
 |if2 {d a e b y} (hv:Vt e) (he:ze (zu e)=true) (hb:Vt b) (hb9:zu b=9) (hy:Vt y) (hy9:zu y=9):SNode ⟨d,7,za,0,0,a⟩ [e,b,y]
 |while {d a e b} (hv:Vt e) (he:ze (zu e)=true) (hb:Vt b) (hb9:zu b=9):SNode ⟨d,8,za,0,0,a⟩ [e,b]
 |var {d s a} (hs:nameableB s=true):SNode ⟨d,0,s,0,0,a⟩ []
 |arr {d s X a} (hs:nameableB s=true) (h0:0<=X):SNode ⟨d,1,s,X,0,a⟩ []
 |blk {d a us} (h:∀t∈us,Vt t/\zx (zu t)=true):SNode ⟨d,9,za,0,0,a⟩ us
theorem snode{n:Nd}{us:List Tr}(hv:Vt (.mk n us))(he:0<=n.kind/\n.kind<=9):SNode n us:=by
 obtain⟨d,kd,nm,X,o,a⟩:=n
 obtain⟨hf,hp,hn⟩:=hv
 dsimp only at hf hp hn he
 have hkd:kd=0\/kd=1\/kd=2\/kd=3\/kd=4\/kd=5\/kd=6\/kd=7\/kd=8\/kd=9:=by omega
 rcases hkd with rfl|rfl|rfl|rfl|rfl|rfl|rfl|rfl|rfl|rfl
 ·simp[fieldsB] at hf;obtain⟨⟨h1,rfl⟩,rfl⟩:=hf
  obtain rfl:=hn (by decide)
  exact .var h1
 ·simp[fieldsB] at hf;obtain⟨⟨h1,h2⟩,rfl⟩:=hf
  obtain rfl:=hn (by decide)
  exact .arr h1 h2
 ·simp[fieldsB] at hf;obtain⟨⟨h1,rfl⟩,rfl⟩:=hf
  obtain⟨e,rfl,he,hee⟩:=uV (by decide) (hp (by decide))
  exact .assign h1 he hee
 ·simp[fieldsB] at hf;obtain⟨⟨h1,rfl⟩,rfl⟩:=hf
  obtain⟨e,y,rfl,⟨he,hee⟩,hy,hyy⟩:=kid_e2 (by decide) (hp (by decide))
  exact .store h1 he hee hy hyy
 ·simp[fieldsB] at hf;obtain⟨⟨h1,rfl⟩,rfl⟩:=hf
  obtain rfl:=hn (by decide)
  exact .input h1
 ·simp[fieldsB] at hf;obtain⟨⟨h1,rfl⟩,rfl⟩:=hf
  obtain rfl:nm=za:=by first|exact nm_empty h1|(apply ByteArray.ext;apply Array.ext';rw[ByteArray.toList_eq] at h1;simpa [za] using h1)|(apply ByteArray.ext;apply Array.ext';simpa [za] using h1)
  obtain⟨e,rfl,he,hee⟩:=uV (by decide) (hp (by decide))
  exact .assert he hee
 ·simp[fieldsB] at hf;obtain⟨⟨h1,rfl⟩,rfl⟩:=hf
  obtain rfl:nm=za:=by first|exact nm_empty h1|(apply ByteArray.ext;apply Array.ext';rw[ByteArray.toList_eq] at h1;simpa [za] using h1)|(apply ByteArray.ext;apply Array.ext';simpa [za] using h1)
  obtain rfl:=hn (by decide)
  exact .skip
 ·simp[fieldsB] at hf;obtain⟨⟨h1,rfl⟩,rfl⟩:=hf
  obtain rfl:nm=za:=by first|exact nm_empty h1|(apply ByteArray.ext;apply Array.ext';rw[ByteArray.toList_eq] at h1;simpa [za] using h1)|(apply ByteArray.ext;apply Array.ext';simpa [za] using h1)
  rcases kid_if (hp (by decide)) with⟨e,b,rfl,⟨he,hee⟩,hb,hb9⟩|⟨e,b,y,rfl,⟨he,hee⟩,⟨hb,hb9⟩,hy,hy9⟩
  ·exact .if1 he hee hb hb9
  ·exact .if2 he hee hb hb9 hy hy9
 ·simp[fieldsB] at hf;obtain⟨⟨h1,rfl⟩,rfl⟩:=hf
  obtain rfl:nm=za:=by first|exact nm_empty h1|(apply ByteArray.ext;apply Array.ext';rw[ByteArray.toList_eq] at h1;simpa [za] using h1)|(apply ByteArray.ext;apply Array.ext';simpa [za] using h1)
  obtain⟨e,b,rfl,⟨he,hee⟩,hb,hb9⟩:=kid_while (hp (by decide))
  exact .while he hee hb hb9
 ·simp[fieldsB] at hf;obtain⟨⟨h1,rfl⟩,rfl⟩:=hf
  obtain rfl:nm=za:=by first|exact nm_empty h1|(apply ByteArray.ext;apply Array.ext';rw[ByteArray.toList_eq] at h1;simpa [za] using h1)|(apply ByteArray.ext;apply Array.ext';simpa [za] using h1)
  exact .blk (kid_blk us 0 (hp (by decide)))
def StOk(C:WCx)(t:Tr):Prop:=(zx (zu t)=true->SOk 57 .s C t)/\(zu t=9->SOk 106 .b C t)
theorem zab(C:WCx)(ht:TabW C.w0)(hnum:∀n∈C.ns,n.num<=9223372036854775807):∀(N:Nat) (t:Tr),SizeOf.sizeOf t<=N->Vt t->StOk C t
 |0, .mk n us,hN,_=>by simp at hN
 |N+1, .mk n us,hN,hv=>by
  have hsz:∀e∈us,SizeOf.sizeOf e<=N:=fun e hm=>by
   have:=List.sizeOf_lt_of_mem hm
   simp only[Tr.mk.sizeOf_spec] at hN;omega
  have IE:∀e∈us,Vt e->ze (zu e)=true->yS C e:=fun e hm=>zaD C ht hnum N e (hsz e hm);have IS:∀e∈us,Vt e->StOk C e:=fun e hm=>zab C ht hnum N e (hsz e hm);refine⟨fun hs=>?_,fun h9=>?_⟩
  ·intro d rest at_ u T pl w h hdr hrest hd0 hd1 hu hT;have hfl:flatT (.mk n us) d={n with depth:=d}::flatTs us (d+1):=by simp[flatT]
   have hn:C.ns[at_]? =some {n with depth:=d}:=by rw[hfl,List.cons_append] at hdr;exact(zt hdr).1
   rw[hfl] at hd1 hu hT;simp only[List.length_cons] at hd1 hu hT;have hdr':C.ns.drop at_=flatT (dep (.mk n us) d) d++rest:=by rw[flat_dep];exact hdr
   have one:∀e:Tr,flatTs [e] (d+1)=flatT e (d+1):=fun e=>by simp[flatTs]
   have two:∀e y:Tr,flatTs [e,y] (d+1)=flatT e (d+1)++flatT y (d+1):=fun e y=>by simp[flatTs]
   have three:∀e y z:Tr,flatTs [e,y,z] (d+1)=flatT e (d+1)++(flatT y (d+1)++flatT z (d+1)):=fun e y z=>by simp[flatTs]
   have zero:flatTs [] (d+1)=[]:=rfl;refine ga C at_ u T pl w h _ hn _ (Lib.hid fun F x w1 f0 f2 hx hxl hm hw=>?_);have hxr:x≠C.r:=by have:=lt_of_block h.hr;omega
   have hxg:x≠C.g:=by have:=lt_of_block h.hg;omega
   have hkk:0<=n.kind/\n.kind<=9:=by
    have hs':zx n.kind=true:=hs;unfold zx at hs';simp only[Bool.and_eq_true,decide_eq_true_eq] at hs';omega
   have HQ:Hid (∀w',SP C at_ u T pl .s (dep (.mk n us) d) d w'->Wm C w1 w'->WPost C w (SP C at_ u T pl .s (.mk n us) d) (.returned (.tuple #[])) w'):=Lib.hid (fun w' hp hm2=>⟨rfl,hp.dep,hm.trans hm2⟩);have hs':zx n.kind=true:=hs;cases snode hv hkk with
   |assign hs0 hve hee=>rw[one] at hd1 hu hT;exact za4 C at_ u T pl w1 hw x d _ _ _ hx hxr hxg hs0 (IE _ (by simp) hve hee) rest hdr' hrest (by omega) (by omega) F f0 f2 _ HQ
   |store hs0 hve hee hvy hey=>rw[two,List.length_append] at hd1 hu hT;exact zcm C at_ u T pl w1 hw x d _ _ _ _ hx hxr hxg hs0 (IE _ (by simp) hve hee) (IE _ (by simp) hvy hey) rest hdr' hrest (by omega) (by omega) F f0 f2 _ HQ
   |input hs0=>exact zcn C at_ u T pl w1 hw x d _ _ hx hxr hxg hs0 rest hdr' hrest (by omega) (by omega) F f0 f2 _ HQ
   |assert hve hee=>rw[one] at hd1 hu hT;exact za5 C at_ u T pl w1 hw x d _ _ hx hxr hxg (IE _ (by simp) hve hee) rest hdr' hrest (by omega) (by omega) F f0 f2 _ HQ
   |skip=>exact zdz C at_ u T pl w1 hw x d _ hx hxr hxg rest hdr' hrest (by omega) (by omega) F f0 f2 _ HQ
   |if1 hve hee hb hb9=>rw[two,List.length_append] at hd1 hu hT;exact zfr C at_ u T pl w1 hw x d _ _ _ hx hxr hxg (IE _ (by simp) hve hee) ((IS _ (by simp) hb).2 hb9) rest hdr' hrest hd0 (by omega) (by omega) (by omega) F f0 f2 _ HQ
   |if2 hve hee hb hb9 hy hy9=>rw[three,List.length_append,List.length_append] at hd1 hu hT;exact zfq C at_ u T pl w1 hw x d _ _ _ _ hx hxr hxg (IE _ (by simp) hve hee) ((IS _ (by simp) hb).2 hb9) ((IS _ (by simp) hy).2 hy9) hy9 rest hdr' hrest hd0 (by omega) (by omega) (by omega) F f0 f2 _ HQ
   | «while» hve hee hb hb9=>rw[two,List.length_append] at hd1 hu hT;exact zcl C at_ u T pl w1 hw x d _ _ _ hx hxr hxg (IE _ (by simp) hve hee) ((IS _ (by simp) hb).2 hb9) rest hdr' hrest hd0 (by omega) (by omega) (by omega) F f0 f2 _ HQ
   |var=>exact absurd hs' (by dsimp only;decide)
   |arr=>exact absurd hs' (by dsimp only;decide)
   |blk=>exact absurd hs' (by dsimp only;decide)
  ·have h9':n.kind=9:=h9;cases snode hv (by omega) with
   |blk hk=>exact zh6 C us _ _ (fun t hm=>(IS t hm (hk t hm).1).1 (hk t hm).2)
   |_=>exact absurd h9' (by dsimp only;decide)
theorem decl_any(C:WCx)(ht:TabW C.w0)(hnum:∀n∈C.ns,n.num<=9223372036854775807)(t:Tr)(hv:Vt t)(hk:zu t=0\/zu t=1)(d:Int)(rest:List Nd)(at_ u:Nat)(T:ByteArray)(pl:List Int)(w:World)(h:Wr C w at_ u T pl)(hdr:C.ns.drop at_=flatT t d++rest)(hrest:RestOk rest d)(hu:u+8<=800000)(hT:T.size+208<=800000):
 Calls Tryz.prog 57 #[.pointer (some ⟨C.r,0,none⟩)] w (WPost C w (DP C at_ u T pl t d)):=by
 obtain⟨n,us⟩:=t
 have hk':n.kind=0\/n.kind=1:=hk;have hfl:flatT (.mk n us) d={n with depth:=d}::flatTs us (d+1):=by simp[flatT]
 have hn:C.ns[at_]? =some {n with depth:=d}:=by rw[hfl,List.cons_append] at hdr;exact(zt hdr).1
 have hle0:=hnum _ (List.mem_of_getElem? hn);have hle:n.num<=9223372036854775807:=hle0;have hdr':C.ns.drop at_=flatT (dep (.mk n us) d) d++rest:=by rw[flat_dep];exact hdr
 refine ga C at_ u T pl w h _ hn _ (Lib.hid fun F x w1 f0 f2 hx hxl hm hw=>?_);have hxr:x≠C.r:=by have:=lt_of_block h.hr;omega
 have hxg:x≠C.g:=by have:=lt_of_block h.hg;omega
 have HQ:Hid (∀w',DP C at_ u T pl (dep (.mk n us) d) d w'->Wm C w1 w'->WPost C w (DP C at_ u T pl (.mk n us) d) (.returned (.tuple #[])) w'):=Lib.hid (fun w' hp hm2=>⟨rfl,hp.dep,hm.trans hm2⟩);cases snode hv (by omega) with
 |var hs0=>exact zfn C at_ u T pl w1 hw x d _ _ hx hxr hxg hs0 rest hdr' hrest (by omega) (by omega) F f0 f2 _ HQ
 |arr hs0 h0=>exact zfs C at_ u T pl w1 hw x d _ _ _ hx hxr hxg hs0 ht h0 hle rest hdr' hrest (by omega) (by omega) F f0 f2 _ HQ
 |_=>exact absurd hk' (by dsimp only;decide)
structure TopW (ts ts2:List Tr) (l:List Pc) (ts1 ts1':List Tr):Prop where
 all:ts=ts1++ts2
 root:∃b,Root b ts2/\∃dts us l1 l2 dts' us',ts1=dts++us/\ts1'=dts'++us'/\l=l1++l2/\(∀xs m xs',W .p (szOf l1) xs m xs'->W .p 0 (dts++xs) (l1++m) (dts'++xs'))/\W .ss (szOf l1) us l2 us'/\(b=false->us=[]/\us'=[]/\l2=[])
theorem TopW.start{ts:List Tr}(h:Root false ts):TopW ts ts [] [] []:=⟨rfl,false,h,[],[],[],[],[],[],rfl,rfl,rfl,fun xs m xs' h=>h, .nil,fun _=>⟨rfl,rfl,rfl⟩⟩
theorem TopW.stop{ts ts1 ts1':List Tr}{l:List Pc}(h:TopW ts [] l ts1 ts1'):W .p 0 ts l ts1'/\ts=ts1:=by
 obtain⟨e,b,_,dts,us,l1,l2,dts',us',rfl,rfl,rfl,h1,h2,_⟩:=h
 rw[List.append_nil] at e;subst e;exact⟨h1 _ _ _ (.sts h2),rfl⟩
theorem TopW.decl{ts ts2 ts1 ts1':List Tr}{l m:List Pc}{t t':Tr}(h:TopW ts (t::ts2) l ts1 ts1')(hk:zu t=0\/zu t=1)(hd:∀xs k xs',W .p (szOf l+szOf m) xs k xs'->W .p (szOf l) (t::xs) (m++k) (t'::xs')):TopW ts ts2 (l++m) (ts1++[t]) (ts1'++[t']):=by
 obtain⟨e,b,hr,dts,us,l1,l2,dts',us',rfl,rfl,rfl,h1,h2,h3⟩:=h
 refine⟨by rw[e];simp,?_⟩
 have hb:b=false/\Root false ts2:=by
  cases hr with
  |decl hv hd h=>exact⟨rfl,h⟩
  |stmt hv hs h=>
   exfalso;unfold zx at hs;simp only[Bool.and_eq_true,decide_eq_true_eq] at hs;omega
 obtain⟨rfl,hr2⟩:=hb
 obtain⟨rfl,rfl,rfl⟩:=h3 rfl
 simp only[List.append_nil] at hd⊢;refine⟨false,hr2,dts++[t],[],l1++m,[],dts'++[t'],[],by simp,by simp,by simp,fun xs k xs' hx=>?_, .nil,fun _=>⟨rfl,rfl,rfl⟩⟩
 rw[szOf_append] at hx;have:=h1 _ _ _ (hd xs k xs' hx)
 simpa [List.append_assoc] using this
theorem TopW.stmt{ts ts2 ts1 ts1':List Tr}{l m:List Pc}{t t':Tr}(h:TopW ts (t::ts2) l ts1 ts1')(hk:zx (zu t)=true)(hs:W .s (szOf l) [t] m [t']):TopW ts ts2 (l++m) (ts1++[t]) (ts1'++[t']):=by
 obtain⟨e,b,hr,dts,us,l1,l2,dts',us',rfl,rfl,rfl,h1,h2,h3⟩:=h
 refine⟨by rw[e];simp,true,?_,dts,us++[t],l1,l2++m,dts',us'++[t'],by simp,by simp,by simp,h1,?_,fun e=>by cases e⟩
 ·cases hr with
  |decl hv hd h=>
   exfalso;unfold zx at hk;simp only[Bool.and_eq_true,decide_eq_true_eq] at hk;omega
  |stmt hv hs h=>exact h
 ·rw[szOf_append] at hs;exact zbQ h2 rfl hs
theorem TopW.next{ts ts2 ts1 ts1':List Tr}{l:List Pc}{t:Tr}(h:TopW ts (t::ts2) l ts1 ts1'):Vt t/\((zu t=0\/zu t=1)\/zx (zu t)=true):=by
 obtain⟨_,b,hr,_⟩:=h
 cases hr with
 |decl hv hd h=>exact⟨hv, .inl hd⟩
 |stmt hv hs h=>exact⟨hv, .inr hs⟩
theorem TopW.same{ts ts2 ts1 ts1':List Tr}{l:List Pc}(h:TopW ts ts2 l ts1 ts1')(d:Int):noAt (flatTs ts1' d)=noAt (flatTs ts1 d):=by
 obtain⟨_,b,_,dts,us,l1,l2,dts',us',rfl,rfl,rfl,h1,h2,_⟩:=h
 have:=kg (h1 _ _ _ (.sts h2)) d
 simpa using this
theorem TopW.len{ts ts2 ts1 ts1':List Tr}{l:List Pc}(h:TopW ts ts2 l ts1 ts1')(d:Int):(flatTs ts1' d).length=(flatTs ts1 d).length:=by
 have:=congrArg List.length (h.same d)
 simpa [noAt] using this
theorem wh(l m:List Pc):zR l++zR m=zR (l++m):=by
 apply ByteArray.ext;simp[zR,qd]
theorem zfK{n:Nat}{L:List Nd}(h:L.length=n):plW (List.replicate n 0) 0 L=L.map Nd.at_:=by
 unfold plW;rw[List.take_zero,List.nil_append,List.drop_eq_nil_of_le (by simp[h]),List.append_nil]
theorem zfQ{L M:List Nd}(h:noAt L=noAt M){i:Nat}{n:Nd}(hn:M[i]? =some n):∃p,L[i]? =some {n with at_:=p}:=by
 have h1:=congrArg (fun x=>x[i]?) h;simp only[noAt,List.getElem?_map,hn,Option.map_some] at h1;cases hL:L[i]? with
 |none=>rw[hL] at h1;simp at h1
 |some m=>
  rw[hL] at h1;simp only[Option.map_some,Option.some.injEq] at h1;obtain⟨a1,a2,a3,a4,a5,a6⟩:=m
  obtain⟨b1,b2,b3,b4,b5,b6⟩:=n
  simp only[Nd.mk.injEq] at h1;obtain⟨rfl,rfl,rfl,rfl,rfl,_⟩:=h1
  exact⟨a6,rfl⟩
theorem zap(L:List Nd){i:Nat}{n:Nd}(h:L[i]? =some n):ndCells (L.take (i+1))=ndCells (L.take i)++n.cells:=by
 rw[List.take_add_one,h];simp[ndCells]
theorem zah(ts:List Tr)(d:Int):RestOk (flatTs ts d) d:=by
 have:=uK ts d [] (fun m l e=>by cases e)
 simpa using this
theorem info3:(Tryz.prog.info? 3).map (fun i=>(i.zero,i.size,i.bytes))=some (some (.int .i64 0),1,8):=by kernel_rfl
theorem zcL(n:Nat):madeCells (Value.int .i64 0).cells (n*1)=((List.replicate n (0:Int)).map (Value.int .i64)).toArray:=by
 apply Array.ext
 ·simp[madeCells]
 ·intro i h1 h2;simp[madeCells,Value.cells,Nat.mod_one]
theorem make_zeros(n:Nat)(hn:n<=300)(w:World):(Instr.makeSlice 36 (.int .i64 n) (.int .i64 n)).run Tryz.prog w= .ok (.slice (some ⟨w.heap.size,0,none⟩) n n) (w.alloc (.cells ((List.replicate n (0:Int)).map (Value.int .i64)).toArray 3)):=by
 obtain⟨ti,hi,h1,h2,h3⟩:=info_parts info3
 have:=run_makeSlice w 36 3 ti _ Tryz.underlying36 hi h1 .i64 .i64 n n (by omega) (Int.le_refl _) (by rw[h2];simp;omega) (by rw[h3];omega) (by omega)
 rw[this,h2];simp only[Int.toNat_natCast];rw[zcL]
theorem za0(w:World)(ns:List Nd)(nb:Option Addr)(nc:Nat)(hb:Option Addr)(hn hc:Nat)(hnodes:NodesAt w (.slice nb ns.length nc) ns)(how:hn≠0->∃g off,hb=some ⟨g,off,none⟩/\∀j,j<hn->∃x,w.cell? ⟨g,off+j,none⟩=some (.int .i64 x))(hcap:hn<=hc)(hn2:hn<=9223372036854775807)(hns:ns.length<=300)
 (fills:∀(k:Nat) f,zd[k]? =some f->w.cell? ⟨3,k,none⟩=some (.string ⟨f.toArray⟩)) (names:∀k:Nat,k<16->w.cell? ⟨4,k,none⟩=some (.string (opName k))) (ht:TabW w) (hnum:∀n∈ns,n.num<=9223372036854775807) (ts:List Tr) (hts:ns=flatTs ts 1) (hroot:Root false ts):
 Calls Tryz.prog 20 #[.slice nb ns.length nc, .slice hb hn hc] w fun e w'=>∃l ts' sl,W .p 0 ts l ts'/\szOf l<=62400/\e= .returned (.tuple #[.string (textOf l),sl])/\w'.ownsRow w.heap.size 50 6 sl (flatTs ts' 1).length (ndCells (flatTs ts' 1))/\Kin w w':=by
 have hn0:(0:Int)<=(ns.length:Int):=by omega
 have hn1:(ns.length:Int)<=300:=by omega
 have HTS:=Lib.hid hts;clear hts;have hmk:=make_zeros ns.length hns;obtain⟨C,e0,er,eg,e1,e2,e3,e4,e5,e6⟩:∃C:WCx,C.w0=w/\C.r=w.heap.size+1/\C.g=w.heap.size/\C.ns=ns/\C.nb=nb/\C.nc=nc/\C.hb=hb/\C.hn=hn/\C.hc=hc:=⟨⟨w.heap.size+1,w.heap.size,ns,nb,nc,hb,hn,hc,w,hnodes,how,hcap,hn2,hns,fills,names,by omega,Nat.le_refl _,by omega⟩,rfl,rfl,rfl,rfl,rfl,rfl,rfl,rfl,rfl⟩
 subst e0 e1 e2 e3 e4 e5 e6;have ER:=Lib.hid er;have EG:=Lib.hid eg;clear how fills names er eg hnodes;go_enter Tryz.func20,Tryz.ntmps20;go_wp2_with fail;rw[<-ER.out,<-EG.out];have H0:Hid (Wr C ((C.w0.alloc (.cells (Array.replicate C.ns.length (.int .i64 0)) 3)).alloc (.cells #[.slice C.nb C.ns.length C.nc, .int .i64 0, .string {data:= #[]}, .slice (some {block:=C.g,off:=0}) C.ns.length C.ns.length, .slice C.hb C.hn C.hc, .int .i64 0] 110)) 0 0 ⟨#[]⟩ (List.replicate C.ns.length 0)):=Lib.hid ⟨((Kin.refl C.w0).alloc _).alloc _,by
  have:=heap_alloc_new (C.w0.alloc (.cells (Array.replicate C.ns.length (.int .i64 0)) 3)) (.cells #[.slice C.nb C.ns.length C.nc, .int .i64 0, .string {data:= #[]}, .slice (some {block:=C.g,off:=0}) C.ns.length C.ns.length, .slice C.hb C.hn C.hc, .int .i64 0] 110)
  rw[World.size_alloc,<-ER.out] at this;exact this,by
  have h1:=heap_alloc_new C.w0 (.cells (Array.replicate C.ns.length (.int .i64 0)) 3);rw[<-EG.out] at h1;have hlt:C.g<(C.w0.alloc (.cells (Array.replicate C.ns.length (.int .i64 0)) 3)).heap.size:=by rw[World.size_alloc,EG.out];omega
  rw[Below.heap_alloc _ _ _ hlt,h1];simp,by simp⟩
 generalize World.alloc (World.alloc C.w0 _) _=w1 at H0⊢;go_loopg [] ts.length (fun gg wr=>∃(ts1 ts2:List Tr) (l:List Pc) (ts1':List Tr) (u:Nat),TopW ts ts2 l ts1 ts1'/\gg=ts2.length/\Wr C wr (flatTs ts1 1).length u (zR l) (plW (List.replicate C.ns.length 0) 0 (flatTs ts1' 1))/\szOf l<=208*(flatTs ts1 1).length/\u<=8*(flatTs ts1 1).length)
 case atStart=>exact⟨[],ts,[],[],0, .start hroot,rfl,H0.out.cast rfl rfl (by simp[plW,flatTs]),by simp[szOf,bytesOf],by simp⟩
 case round=>
  obtain⟨ts1,ts2,l,ts1',u,htop,hgg,hw,hz,hu⟩:=hrel
  have HTOP:=Lib.hid htop;have HG:=Lib.hid hgg;have HA0:=Lib.hid hw;have HZ:=Lib.hid hz;have HU:=Lib.hid hu;have hdr0:C.ns.drop (flatTs ts1 1).length=flatTs ts2 1:=by
   have h1:=HTS.out;rw[htop.all,zZ] at h1;have:=xb (ns:=C.ns) (at_:=0) (a:=flatTs ts1 1) (l:=flatTs ts2 1) (by rw[List.drop_zero];exact h1)
   simpa using this
  have hlen0:(flatTs ts1 1).length+(flatTs ts2 1).length=C.ns.length:=by
   have h1:=congrArg List.length HTS.out;rw[htop.all,zZ,List.length_append] at h1;exact h1.symm
  clear htop hgg hw hz hu;obtain⟨a3,ha3⟩:∃a3:Nat,a3=(flatTs ts1 1).length:=⟨_,rfl⟩
  have HA:Hid (Wr C wr a3 u _ _):=Lib.hid (by rw[ha3];exact HA0.out)
  have DR:Hid (C.ns.drop a3=flatTs ts2 1):=Lib.hid (by rw[ha3];exact hdr0)
  have HL0:=Lib.hid hlen0;have HA3:=Lib.hid ha3;obtain⟨c0,c1,-,-,-,-⟩:=HA.out.cells
  have ha0:(0:Int)<=(a3:Int):=by omega
  clear hdr0 hlen0 ha3;cases ts2 with
  |cons t ts3=>
   obtain⟨hv,hk⟩:=HTOP.out.next
   obtain⟨m,l0,hm1,hm2,_⟩:=jU t 1
   have hdd3:=DR.out;rw[xa,hm1,List.cons_append] at hdd3;have hlt3:a3<C.ns.length:=(zt hdd3).2.1;have ha1:(a3:Int)<(C.ns.length:Int):=by omega
   have ha2:decide ((a3:Int)<(C.ns.length:Int))=true:=decide_eq_true ha1;have hsum:(flatTs ts1 1).length+((flatT t 1).length+(flatTs ts3 1).length)=C.ns.length:=by have:=HL0.out;rw[xa,List.length_append] at this;exact this
   have HSUM:=Lib.hid hsum;clear hdd3 hm1 hm2 c0 hsum;rcases hk with hk|hk
   ·go_wp2_with (go_at_call 57;refine WPost.go (decl_any C ht hnum t hv hk 1 (flatTs ts3 1) a3 u _ _ _ HA.out (by have:=DR.out;rw[xa] at this;exact this) (zah ts3 1) (by have:=HU.out;have:=HSUM.out;omega) (by rw[bytesB_size];have:=HZ.out;have:=HSUM.out;omega)) ?_;rintro w2 ⟨l2,t2,u2,hW2,hz2,hu2,hl2,hw2⟩ hm2;have HW2:=Lib.hid hW2;have HZ2:=Lib.hid hz2;have HU2:=Lib.hid hu2;have HL2:=Lib.hid hl2;have H2:=Lib.hid hw2;clear hW2 hz2 hu2 hl2 hw2 hm2);go_roundg ts3.length
    case measure=>have:=HG.out;simp only[List.length_cons] at this;omega
    case rel=>
     have hz:=HZ.out;have hz2:=HZ2.out;have hu:=HU.out;have hu2:=HU2.out;have hl2:=HL2.out;have ha3:=HA3.out;have hsum:=HSUM.out;have hl1:=HTOP.out.len 1;refine⟨ts1++[t],ts3,l++l2,ts1'++[t2],u2,HTOP.out.decl hk (by have:=HW2.out;rw[bytesB_size] at this;exact this),rfl,H2.out.cast ?_ ?_ ?_,?_,?_⟩
     ·rw[yd,List.length_append];omega
     ·exact wh l l2
     ·rw[yd,<-qw (by rw[List.length_replicate,List.length_append];omega),hl1,ha3,Nat.zero_add]
     ·rw[szOf_append,yd,List.length_append];omega
     ·rw[yd,List.length_append];omega
   ·go_wp2_with (go_at_call 57;refine WPost.go ((zab C ht hnum _ t (Nat.le_refl _) hv).1 hk 1 (flatTs ts3 1) a3 u _ _ _ HA.out (by have:=DR.out;rw[xa] at this;exact this) (zah ts3 1) (by omega) (by have:=HSUM.out;omega) (by have:=HU.out;have:=HSUM.out;omega) (by rw[bytesB_size];have:=HZ.out;have:=HSUM.out;omega)) ?_;rintro w2 ⟨l2,t2,u2,hW2,hz2,hu2,hw2⟩ hm2;have HW2:=Lib.hid hW2;have HZ2:=Lib.hid hz2;have HU2:=Lib.hid hu2;have H2:=Lib.hid hw2;clear hW2 hz2 hu2 hw2 hm2);go_roundg ts3.length
    case measure=>have:=HG.out;simp only[List.length_cons] at this;omega
    case rel=>
     have hz:=HZ.out;have hz2:=HZ2.out;have hu:=HU.out;have hu2:=HU2.out;have hl2:=yg HW2.out 1;have ha3:=HA3.out;have hsum:=HSUM.out;have hl1:=HTOP.out.len 1;refine⟨ts1++[t],ts3,l++l2,ts1'++[t2],u2,HTOP.out.stmt hk (by have:=HW2.out;rw[bytesB_size] at this;exact this),rfl,H2.out.cast ?_ ?_ ?_,?_,?_⟩
     ·rw[yd,List.length_append];omega
     ·exact wh l l2
     ·rw[yd,<-qw (by rw[List.length_replicate,List.length_append];omega),hl1,ha3,Nat.zero_add]
     ·rw[szOf_append,yd,List.length_append];omega
     ·rw[yd,List.length_append];omega
  |nil=>
   have hlen:C.ns.length=(flatTs ts1 1).length:=by have:=HL0.out;simp only[flatTs,List.length_nil] at this;omega
   have ha1:¬((a3:Int)<(C.ns.length:Int)):=by have:=HA3.out;omega
   have ha2:decide ((a3:Int)<(C.ns.length:Int))=false:=decide_eq_false ha1;have ha4:¬(a3<C.ns.length):=by omega
   obtain⟨hW,e⟩:=HTOP.out.stop
   have hL:(flatTs ts1' 1).length=C.ns.length:=by rw[HTOP.out.len 1];exact hlen.symm
   have hNA:noAt (flatTs ts1' 1)=noAt C.ns:=by rw[HTOP.out.same 1,<-e];exact congrArg noAt HTS.out.symm
   have HW:=Lib.hid hW;have HA5:Hid (Wr C wr a3 u (zR l) ((flatTs ts1' 1).map Nd.at_)):=Lib.hid (HA.out.cast rfl rfl (zfK hL));have HLL:=Lib.hid hL;have HZ4:Hid (szOf l<=62400):=Lib.hid (by have:=HZ.out;omega)
   have HNA:=Lib.hid hNA;clear hW e hL hNA hlen HA;generalize hgL:flatTs ts1' 1=L at HA5 HLL HNA;have HGL:=Lib.hid hgL;clear hgL;obtain⟨ti,hi,hz0,hz1,hz2⟩:=info_parts zaw
   obtain⟨wq,hwq⟩:∃wq,wq=wr:=⟨_,rfl⟩
   have HQ0:Hid (Wr C wq a3 u (zR l) (L.map Nd.at_)):=Lib.hid (by rw[hwq];exact HA5.out)
   have HKQ:Hid (Kin wq wr):=Lib.hid (by rw[hwq];exact Kin.refl _)
   clear hwq;go_wp2_with fail;go_loopg [7,8] C.ns.length (fun gg x y wr=>∃i:Nat,y= .int .i64 i/\i<=C.ns.length/\gg=C.ns.length-i/\Kin wq wr/\wr.ownsRow wq.heap.size 50 6 x i (ndCells (L.take i)))
   case atStart=>exact⟨0,rfl,Nat.zero_le _,rfl,HKQ.out,World.ownsRow_nil ..⟩
   case round=>
    obtain⟨i,rfl,hi2,hgg,hK,hown⟩:=hrel
    have HG2:=Lib.hid hgg;have HK:=Lib.hid hK;have HOWN:=Lib.hid hown;clear hgg hK hown HKQ HA5;by_cases hli:i<C.ns.length
    ·obtain⟨n,hn⟩:∃n,C.ns[i]? =some n:=⟨_,List.getElem?_eq_getElem hli⟩
     obtain⟨p,hp⟩:=zfQ HNA.out hn
     obtain⟨b,cap,e,hcap,hx⟩:=C.nodes.kin (HQ0.out.kin.trans HK.out)
     simp only[Value.slice.injEq] at e;obtain⟨rfl,_,rfl⟩:=e
     obtain⟨g,off,e1,e2⟩:=hx (by rintro e;rw[e] at hn;simp at hn)
     have cl:=e2 i n hn;have HN:=Lib.hid hn;have HP:=Lib.hid hp;clear hn hp e2 hx hcap;obtain⟨a1,a2,b3,a4,a5,a6⟩:=n
     have d0:=cl 0 _ rfl;have d1:=cl 1 _ rfl;have d2:=cl 2 _ rfl;have d3:=cl 3 _ rfl;have d4:=cl 4 _ rfl;have d5:=cl 5 _ rfl;rw[Nat.add_zero] at d0;have hW2:=HQ0.out.of_kin (HK.out.alloc (.cells #[.int .i64 a1, .int .i64 a2, .string b3, .int .i64 a4, .int .i64 a5, .int .i64 a6] 50));obtain⟨-,-,-,f3,-,-⟩:=hW2.cells
     have f4:=(hW2.pcell i hli).1;rw[show(L.map Nd.at_).getD i 0=p from by simp[List.getD_eq_getElem?_getD,HP.out]] at f4
     clear cl hW2;have HX:Hid (((wr.alloc (.cells #[.int .i64 a1, .int .i64 a2, .string b3, .int .i64 a4, .int .i64 a5, .int .i64 p] 50)).alloc (.cells #[.int .i64 a1, .int .i64 a2, .string b3, .int .i64 a4, .int .i64 a5, .int .i64 p] 50)).ownsRow wq.heap.size 50 6 u7 i (ndCells (L.take i))):=Lib.hid (jH HOWN.out (((Kin.refl wr).alloc _).alloc _));go_wp2_with (at_builtin;refine kU _ rfl (.tmp 44) (.tmp 46) 25 rfl wq.heap.size 50 ti _ 6 56 Tryz.underlying25 hi hz0 hz1 hz2 rfl (by decide) _ _ _ rfl HX.out ⟨wr.heap.size+1,0,none⟩ 1 1 (⟨a1,a2,b3,a4,a5,p⟩:Nd).cells rfl rfl (by have:=newc (wr.alloc (.cells #[.int .i64 a1, .int .i64 a2, .string b3, .int .i64 a4, .int .i64 a5, .int .i64 p] 50)) #[.int .i64 a1, .int .i64 a2, .string b3, .int .i64 a4, .int .i64 a5, .int .i64 p] 50 (⟨a1,a2,b3,a4,a5,p⟩:Nd).cells rfl;simpa using this) (by intro u hu;simp[Nd.cells] at hu;rcases hu with rfl|rfl|rfl|rfl|rfl|rfl<;>rfl) (by have:=hns;unfold maxLen;omega) (by have:=hns;omega) (by have:=HK.out.size;simp;omega) ?_;intro v2 w2 hown2 hgrow2);rw[<-e1];go_roundg (C.ns.length-(i+1))
     case measure=>have:=HG2.out;omega
     case rel=>
      refine⟨i+1,by simp,by omega,rfl,((HK.out.alloc _).alloc _).grownK hgrow2.by (fun b hb=>(HX.out.lt b hb).1),?_⟩
      rw[zap L HP.out];exact hown2
    ·obtain rfl:i=C.ns.length:=by omega
     have hW3:=HQ0.out.of_kin HK.out;obtain⟨-,-,f2,-,-,-⟩:=hW3.cells
     have HW3:=Lib.hid hW3;clear hW3;go_wp2_with fail;refine⟨rfl, .tuple #[.string (zR l),u7],by simp[results,Tryz.f20],l,ts1',u7,HW.out,HZ4.out,rfl,?_,HW3.out.kin⟩
     rw[HGL.out,HLL.out];have:=HOWN.out.mono (base':=C.w0.heap.size) HQ0.out.kin.size
     rw[show L.take C.ns.length=L from List.take_of_length_le (by rw[HLL.out];exact Nat.le_refl _)] at this
     exact this
open Go.RowKit Go.Bsd
noncomputable def fx0:Code:=(Tryz.f13.body.getD .skip)
noncomputable def fx1:Code:=seqL (seqR fx0)
noncomputable def fx2:Code:=seqR (seqR fx0)
theorem zi4:fx0= .seq (seqL fx0) (.seq fx1 fx2):=rfl
theorem zi3:∃id,fx1= .region id (zw fx1) false:=⟨_,rfl⟩
def xv:Array Value:= #[.int .i64 1, .int .i64 2, .string {data:= #[120]}, .int .i64 0, .int .i64 0, .int .i64 0, .int .i64 2, .int .i64 15, .string {data:= #[]}, .int .i64 0, .int .i64 4, .int .i64 7, .int .i64 3, .int .i64 10, .string {data:= #[]}, .int .i64 1, .int .i64 0, .int .i64 5, .int .i64 3, .int .i64 10, .string {data:= #[]}, .int .i64 2, .int .i64 0, .int .i64 9]
theorem gB:∀n∈fixedTree,n.name.size<=140737488355328/\ -9223372036854775808<=n.depth/\n.depth<=9223372036854775807:=by
 intro n hn;simp only[fixedTree,List.mem_cons,List.not_mem_nil,or_false] at hn;rcases hn with rfl|rfl|rfl|rfl<;>exact⟨by decide,by decide,by decide⟩
theorem fixed_tail(w w1:World)(kw:Kin w w1)(sl:Value)(hN:NodesAt w1 sl fixedTree)(T:Nat->Question->Nat)(d:Nat)(t8 t9:Value):
 fx2.wp Tryz.prog (bodyPost Tryz.prog Tryz.f13 (TrueP w)) {tmps:= #[.bool false,sl, .nilIface,undef,undef,undef,undef,undef,t8,t9,sl, .nilIface,undef,undef,undef,undef,undef,undef,undef,undef,undef,undef,undef,undef,undef,undef,undef,undef,undef,undef,undef,undef,undef,undef,undef,undef,undef,undef,undef,undef,undef,undef,undef,undef,undef,undef,undef,undef,undef,undef],defers:=[]} (re w1 T d):=by
 have k1:Kin w1 (re w1 T d):=⟨rfl,rfl,Nat.le_refl _,fun _ _=>rfl⟩;have k2:Kin w1 ((re w1 T d).alloc (.cells xv 50)):=k1.alloc _;have hb:((re w1 T d).alloc (.cells xv 50)).heap[w1.heap.size]? =some (.cells xv 50 (0,0)):=by
  have:=heap_alloc_new (re w1 T d) (.cells xv 50)
  simpa using this
 have n1:=hN.kin k2;have n2:NodesAt ((re w1 T d).alloc (.cells xv 50)) (.slice (some ⟨w1.heap.size,0,none⟩) 4 4) fixedTree:=NodesAt.of_block hb rfl rfl (by decide)
 have n3:NodesAt ((re w1 T d).alloc (.cells xv 50)) (.slice (some ⟨w1.heap.size,0,none⟩) 3 4) (fixedTree.take 3):=NodesAt.of_block hb rfl rfl (by decide)
 have HS:=Lib.hid (same_any fixedTree fixedTree (by decide) (by decide) _ _ _ n1 n2)
 have HSh:=Lib.hid (fun w' (k:Kin _ w')=>kZ fixedTree gB (by decide) _ w' (n2.kin k))
 have HSh3:=Lib.hid (fun w' (k:Kin _ w')=>kZ (fixedTree.take 3) (fun n hn=>gB n (List.mem_of_mem_take hn)) (by decide) _ w' (n3.kin k))
 rw[zbs] at HSh;rw[zaz] at HSh3;rw[decide_eq_true rfl] at HS;have KW:=Lib.hid (kw.trans k2);clear hN n1 n2 n3 k1 k2 hb;obtain⟨W2,hW2⟩:∃W2,W2=(re w1 T d).alloc (.cells xv 50):=⟨_,rfl⟩
 rw[<-hW2] at HSh HSh3 KW;have HS2:Hid (Calls Tryz.prog 16 #[sl, .slice (some ⟨w1.heap.size,0,none⟩) 4 4] ((re w1 T d).alloc (.cells xv 50)) fun e w'=>e= .returned (.bool true)/\Hid (Kin W2 w')):=Lib.hid (HS.out.mono fun e w' h=>⟨h.1,Lib.hid (by rw[hW2];exact h.2)⟩)
 unfold xv at HS2;clear HS hW2;have hsl:∀u,(Instr.sliceAt 25 (.slice (some ⟨w1.heap.size,0,none⟩) 4 4) none (some (.int .i64 3)) none).run Tryz.prog u= .ok (.slice (some ⟨w1.heap.size,0,none⟩) 3 4) u:=fun u=>by
  obtain⟨k,hk⟩:∃k,∀w,(sizeOf (Tryz.prog.elem 25)).run Tryz.prog w= .ok k w:=⟨6,fun w=>by kernel_rfl⟩
  rw[run_sliceAt_slice _ _ _ _ _ _ (by kernel_rfl),run_slice_h _ _ _ _ _ (by kernel_rfl) _ _ (by decide) (by decide),hk]
  simp[Result.andThen,sliced,Addr.add]
 generalize hB:bodyPost Tryz.prog Tryz.f13 (TrueP w)=B;have HB:=Lib.hid hB;clear hB;simp only[fx2,fx0,seqR,Tryz.f13,Option.getD_some];go_wp2_with (go_at_call 16;refine HS2.out.mono ?_;rintro e w3 ⟨rfl,hk3⟩);have h18:=Lib.hid (HSh.out _ hk3.out);refine h18.out.mono ?_;rintro e w4 ⟨rfl,hk4'⟩;have hk4:=Lib.hid hk4';clear hk4' h18;dsimp only;go_wp2_with fail;have h18:=Lib.hid (HSh3.out _ (hk3.out.trans hk4.out));refine h18.out.mono ?_;rintro e w5 ⟨rfl,hk5'⟩;have hk5:=Lib.hid hk5';clear hk5' h18 HSh3 HSh hsl;dsimp only;go_wp2_with fail;rw[<-HB.out];go_ret;exact⟨rfl,KW.out.trans (hk3.out.trans (hk4.out.trans hk5.out))⟩
theorem zek(hP:TameProg Tryz.prog)(te:TypeId)(pe:Value)(w:World)(hv:VarsOk w)(ce:w.cell? ⟨0,0,none⟩=some (.iface te pe)):CallsB Tryz.prog 13 #[] w (TrueP w):=by
 have hR:∀w',¬TrueP w .outgrown w':=fun w' h=>h;refine kR hP Tryz.func13 (c:=fx0) rfl hR ?_;rw[zi4];have ha:(#[]++Array.replicate (Tryz.f13.ntmps-(#[]:Array Value).size) undef)= #[undef,undef,undef,undef,undef,undef,undef,undef,undef,undef,undef,undef,undef,undef,undef,undef,undef,undef,undef,undef,undef,undef,undef,undef,undef,undef,undef,undef,undef,undef,undef,undef,undef,undef,undef,undef,undef,undef,undef,undef,undef,undef,undef,undef,undef,undef,undef,undef,undef,undef]:=by
  simp only[Tryz.ntmps13];simp[Array.replicate_succ]
 rw[ha];clear ha;refine yR hP fun T d=>?_;generalize hB:bodyPost Tryz.prog Tryz.f13 (TrueP w)=B;have HB:=Lib.hid hB;clear hB;generalize hY:(Code.seq fx1 fx2)=Y;have HP:=Lib.hid (gt hP qx (by decide) te pe w hv ce _ zaA)
 clear hv ce;simp only[seqL,fx0,Tryz.f13,Option.getD_some];go_wp2;subst hY;refine ze7 ?_;refine wpB_seq hP ?_;obtain⟨id,hid⟩:=zi3
 rw[hid];clear hid;generalize hX:fx2=X;simp only[fx1,fx0,seqL,seqR,zw,Tryz.f13,Option.getD_some];subst hX;refine jr hP (l:=[_,_,_,_,_,_]) ?_;refine kA hP Tryz.func14 (by kernel_rfl) (by kernel_rfl) rfl rfl (args:= #[.string qx]) (by simp[Act.eval,qc,qx]) (HP.out.mono ?_)
 rintro e w1 hpost;cases e with
 |outgrown=>exact hpost.elim
 |panicked _=>exact hpost.elim
 |returned v=>
  obtain⟨kin,sl,rfl,hown⟩:=hpost
  have hn:=NodesAt.of_owns hown;have HT:Hid (∀t8 t9,wpB Tryz.prog fx2 B {tmps:= #[.bool false,sl, .nilIface,undef,undef,undef,undef,undef,t8,t9,sl, .nilIface,undef,undef,undef,undef,undef,undef,undef,undef,undef,undef,undef,undef,undef,undef,undef,undef,undef,undef,undef,undef,undef,undef,undef,undef,undef,undef,undef,undef,undef,undef,undef,undef,undef,undef,undef,undef,undef,undef],defers:=[]} w1):=Lib.hid (fun t8 t9=>by
   rw[<-HB.out];exact xu hP fun T d=>fixed_tail w w1 kin sl hn T d t8 t9)
  clear hn hown kin HB HP;generalize hX:fx2=X at HT⊢;clear hX;show yY Tryz.prog _ _ _ _ w1;generalize hN:Exit.then (wpB Tryz.prog X B) B=N;refine listB_lift hP fun T d=>?_;go_wp2;subst hN;exact HT.out _ _
open Go.RowKit
theorem vZ(n:Nd)(hs:n.name.size<=140737488355328)(w:World):Calls Tryz.prog 54 #[.agg n.cells.toArray] w fun e w'=>e= .returned (.bool (fieldsB n))/\Kin w w':=by
 obtain⟨depth,kind,name,num,op,at_⟩:=n
 have hn:=fun w=>zdM name hs w;simp only[Nd.cells];have K1:=Lib.hid ((Kin.refl w).alloc (.cells #[.int .i64 depth, .int .i64 kind, .string name, .int .i64 num, .int .i64 op, .int .i64 at_] 50));generalize hb:nameableB name=b at hn;have HB:=Lib.hid hb;have HN:=Lib.hid hn;clear hb hn hs;by_cases h0:kind=0
 ·subst h0;have hr:fieldsB ⟨depth,0,name,num,op,at_⟩=(b&&(decide (num=0)&&decide (op=0))):=by simp[fieldsB,HB.out,Bool.and_assoc]
  rw[hr];clear hr;cases b
  ·go_enter Tryz.func54,Tryz.ntmps54;go_wp2_with (go_at_call 100;with_reducible refine(HN.out _).mono ?_;rintro e w1 ⟨rfl,hk1⟩;have c3:w1.cell? ⟨w.heap.size,3,none⟩=some (.int .i64 num):=(hk1.cell (by simp)).trans (by simp[go_sem]));all_goals
    go_ret;refine⟨?_,((Kin.refl w).alloc _).trans hk1⟩;first|rfl|(simp_all [beq_dec];done)|(simp_all [beq_dec];omega)
  ·go_enter Tryz.func54,Tryz.ntmps54;go_wp2_with (go_at_call 100;with_reducible refine(HN.out _).mono ?_;rintro e w1 ⟨rfl,hk1⟩;have c3:w1.cell? ⟨w.heap.size,3,none⟩=some (.int .i64 num):=(hk1.cell (by simp)).trans (by simp[go_sem]));all_goals
    go_ret;refine⟨?_,((Kin.refl w).alloc _).trans hk1⟩;first|rfl|(simp_all [beq_dec];done)|(simp_all [beq_dec];omega)
 by_cases h1:kind=1
 ·subst h1;have hr:fieldsB ⟨depth,1,name,num,op,at_⟩=(b&&(decide (0<=num)&&decide (op=0))):=by simp[fieldsB,HB.out,Bool.and_assoc]
  rw[hr];clear hr;cases b
  ·go_enter Tryz.func54,Tryz.ntmps54;go_wp2_with (go_at_call 100;with_reducible refine(HN.out _).mono ?_;rintro e w1 ⟨rfl,hk1⟩;have c3:w1.cell? ⟨w.heap.size,3,none⟩=some (.int .i64 num):=(hk1.cell (by simp)).trans (by simp[go_sem]));all_goals
    go_ret;refine⟨?_,((Kin.refl w).alloc _).trans hk1⟩;first|rfl|(simp_all [beq_dec];done)|(simp_all [beq_dec];omega)
  ·go_enter Tryz.func54,Tryz.ntmps54;go_wp2_with (go_at_call 100;with_reducible refine(HN.out _).mono ?_;rintro e w1 ⟨rfl,hk1⟩;have c3:w1.cell? ⟨w.heap.size,3,none⟩=some (.int .i64 num):=(hk1.cell (by simp)).trans (by simp[go_sem]));all_goals
    go_ret;refine⟨?_,((Kin.refl w).alloc _).trans hk1⟩;first|rfl|(simp_all [beq_dec];done)|(simp_all [beq_dec];omega)
 by_cases h2:kind=2
 ·subst h2;have hr:fieldsB ⟨depth,2,name,num,op,at_⟩=(b&&(decide (num=0)&&decide (op=0))):=by simp[fieldsB,HB.out,Bool.and_assoc]
  rw[hr];clear hr;cases b
  ·go_enter Tryz.func54,Tryz.ntmps54;go_wp2_with (go_at_call 100;with_reducible refine(HN.out _).mono ?_;rintro e w1 ⟨rfl,hk1⟩;have c3:w1.cell? ⟨w.heap.size,3,none⟩=some (.int .i64 num):=(hk1.cell (by simp)).trans (by simp[go_sem]));all_goals
    go_ret;refine⟨?_,((Kin.refl w).alloc _).trans hk1⟩;first|rfl|(simp_all [beq_dec];done)|(simp_all [beq_dec];omega)
  ·go_enter Tryz.func54,Tryz.ntmps54;go_wp2_with (go_at_call 100;with_reducible refine(HN.out _).mono ?_;rintro e w1 ⟨rfl,hk1⟩;have c3:w1.cell? ⟨w.heap.size,3,none⟩=some (.int .i64 num):=(hk1.cell (by simp)).trans (by simp[go_sem]));all_goals
    go_ret;refine⟨?_,((Kin.refl w).alloc _).trans hk1⟩;first|rfl|(simp_all [beq_dec];done)|(simp_all [beq_dec];omega)
 by_cases h3:kind=3
 ·subst h3;have hr:fieldsB ⟨depth,3,name,num,op,at_⟩=(b&&(decide (num=0)&&decide (op=0))):=by simp[fieldsB,HB.out,Bool.and_assoc]
  rw[hr];clear hr;cases b
  ·go_enter Tryz.func54,Tryz.ntmps54;go_wp2_with (go_at_call 100;with_reducible refine(HN.out _).mono ?_;rintro e w1 ⟨rfl,hk1⟩;have c3:w1.cell? ⟨w.heap.size,3,none⟩=some (.int .i64 num):=(hk1.cell (by simp)).trans (by simp[go_sem]));all_goals
    go_ret;refine⟨?_,((Kin.refl w).alloc _).trans hk1⟩;first|rfl|(simp_all [beq_dec];done)|(simp_all [beq_dec];omega)
  ·go_enter Tryz.func54,Tryz.ntmps54;go_wp2_with (go_at_call 100;with_reducible refine(HN.out _).mono ?_;rintro e w1 ⟨rfl,hk1⟩;have c3:w1.cell? ⟨w.heap.size,3,none⟩=some (.int .i64 num):=(hk1.cell (by simp)).trans (by simp[go_sem]));all_goals
    go_ret;refine⟨?_,((Kin.refl w).alloc _).trans hk1⟩;first|rfl|(simp_all [beq_dec];done)|(simp_all [beq_dec];omega)
 by_cases h4:kind=4
 ·subst h4;have hr:fieldsB ⟨depth,4,name,num,op,at_⟩=(b&&(decide (num=0)&&decide (op=0))):=by simp[fieldsB,HB.out,Bool.and_assoc]
  rw[hr];clear hr;cases b
  ·go_enter Tryz.func54,Tryz.ntmps54;go_wp2_with (go_at_call 100;with_reducible refine(HN.out _).mono ?_;rintro e w1 ⟨rfl,hk1⟩;have c3:w1.cell? ⟨w.heap.size,3,none⟩=some (.int .i64 num):=(hk1.cell (by simp)).trans (by simp[go_sem]));all_goals
    go_ret;refine⟨?_,((Kin.refl w).alloc _).trans hk1⟩;first|rfl|(simp_all [beq_dec];done)|(simp_all [beq_dec];omega)
  ·go_enter Tryz.func54,Tryz.ntmps54;go_wp2_with (go_at_call 100;with_reducible refine(HN.out _).mono ?_;rintro e w1 ⟨rfl,hk1⟩;have c3:w1.cell? ⟨w.heap.size,3,none⟩=some (.int .i64 num):=(hk1.cell (by simp)).trans (by simp[go_sem]));all_goals
    go_ret;refine⟨?_,((Kin.refl w).alloc _).trans hk1⟩;first|rfl|(simp_all [beq_dec];done)|(simp_all [beq_dec];omega)
 by_cases h5:kind=5
 ·subst h5;by_cases he:name.toList=[]
  ·have hr:fieldsB ⟨depth,5,name,num,op,at_⟩=(decide (num=0)&&decide (op=0)):=by simp[fieldsB,he,Bool.and_assoc]
   rw[hr];clear hr;have he1:(name.toList !=[])=false:=by simp[he]
   have he2:(name.toList==[])=true:=by simp[he]
   go_enter Tryz.func54,Tryz.ntmps54;go_wp2_with fail;all_goals
    go_ret;refine⟨?_,(Kin.refl w).alloc _⟩;first|rfl|(simp_all [beq_dec];done)|(simp_all [beq_dec];omega)
  ·have hr:fieldsB ⟨depth,5,name,num,op,at_⟩=false:=by simp[fieldsB,he]
   rw[hr];clear hr;have he1:(name.toList !=[])=true:=by simp[he]
   have he2:(name.toList==[])=false:=by simp[he]
   go_enter Tryz.func54,Tryz.ntmps54;go_wp2_with fail;all_goals
    go_ret;refine⟨?_,(Kin.refl w).alloc _⟩;first|rfl|(simp_all [beq_dec];done)|(simp_all [beq_dec];omega)
 by_cases h6:kind=6
 ·subst h6;by_cases he:name.toList=[]
  ·have hr:fieldsB ⟨depth,6,name,num,op,at_⟩=(decide (num=0)&&decide (op=0)):=by simp[fieldsB,he,Bool.and_assoc]
   rw[hr];clear hr;have he1:(name.toList !=[])=false:=by simp[he]
   have he2:(name.toList==[])=true:=by simp[he]
   go_enter Tryz.func54,Tryz.ntmps54;go_wp2_with fail;all_goals
    go_ret;refine⟨?_,(Kin.refl w).alloc _⟩;first|rfl|(simp_all [beq_dec];done)|(simp_all [beq_dec];omega)
  ·have hr:fieldsB ⟨depth,6,name,num,op,at_⟩=false:=by simp[fieldsB,he]
   rw[hr];clear hr;have he1:(name.toList !=[])=true:=by simp[he]
   have he2:(name.toList==[])=false:=by simp[he]
   go_enter Tryz.func54,Tryz.ntmps54;go_wp2_with fail;all_goals
    go_ret;refine⟨?_,(Kin.refl w).alloc _⟩;first|rfl|(simp_all [beq_dec];done)|(simp_all [beq_dec];omega)
 by_cases h7:kind=7
 ·subst h7;by_cases he:name.toList=[]
  ·have hr:fieldsB ⟨depth,7,name,num,op,at_⟩=(decide (num=0)&&decide (op=0)):=by simp[fieldsB,he,Bool.and_assoc]
   rw[hr];clear hr;have he1:(name.toList !=[])=false:=by simp[he]
   have he2:(name.toList==[])=true:=by simp[he]
   go_enter Tryz.func54,Tryz.ntmps54;go_wp2_with fail;all_goals
    go_ret;refine⟨?_,(Kin.refl w).alloc _⟩;first|rfl|(simp_all [beq_dec];done)|(simp_all [beq_dec];omega)
  ·have hr:fieldsB ⟨depth,7,name,num,op,at_⟩=false:=by simp[fieldsB,he]
   rw[hr];clear hr;have he1:(name.toList !=[])=true:=by simp[he]
   have he2:(name.toList==[])=false:=by simp[he]
   go_enter Tryz.func54,Tryz.ntmps54;go_wp2_with fail;all_goals
    go_ret;refine⟨?_,(Kin.refl w).alloc _⟩;first|rfl|(simp_all [beq_dec];done)|(simp_all [beq_dec];omega)
 by_cases h8:kind=8
 ·subst h8;by_cases he:name.toList=[]
  ·have hr:fieldsB ⟨depth,8,name,num,op,at_⟩=(decide (num=0)&&decide (op=0)):=by simp[fieldsB,he,Bool.and_assoc]
   rw[hr];clear hr;have he1:(name.toList !=[])=false:=by simp[he]
   have he2:(name.toList==[])=true:=by simp[he]
   go_enter Tryz.func54,Tryz.ntmps54;go_wp2_with fail;all_goals
    go_ret;refine⟨?_,(Kin.refl w).alloc _⟩;first|rfl|(simp_all [beq_dec];done)|(simp_all [beq_dec];omega)
  ·have hr:fieldsB ⟨depth,8,name,num,op,at_⟩=false:=by simp[fieldsB,he]
   rw[hr];clear hr;have he1:(name.toList !=[])=true:=by simp[he]
   have he2:(name.toList==[])=false:=by simp[he]
   go_enter Tryz.func54,Tryz.ntmps54;go_wp2_with fail;all_goals
    go_ret;refine⟨?_,(Kin.refl w).alloc _⟩;first|rfl|(simp_all [beq_dec];done)|(simp_all [beq_dec];omega)
 by_cases h9:kind=9
 ·subst h9;by_cases he:name.toList=[]
  ·have hr:fieldsB ⟨depth,9,name,num,op,at_⟩=(decide (num=0)&&decide (op=0)):=by simp[fieldsB,he,Bool.and_assoc]
   rw[hr];clear hr;have he1:(name.toList !=[])=false:=by simp[he]
   have he2:(name.toList==[])=true:=by simp[he]
   go_enter Tryz.func54,Tryz.ntmps54;go_wp2_with fail;all_goals
    go_ret;refine⟨?_,(Kin.refl w).alloc _⟩;first|rfl|(simp_all [beq_dec];done)|(simp_all [beq_dec];omega)
  ·have hr:fieldsB ⟨depth,9,name,num,op,at_⟩=false:=by simp[fieldsB,he]
   rw[hr];clear hr;have he1:(name.toList !=[])=true:=by simp[he]
   have he2:(name.toList==[])=false:=by simp[he]
   go_enter Tryz.func54,Tryz.ntmps54;go_wp2_with fail;all_goals
    go_ret;refine⟨?_,(Kin.refl w).alloc _⟩;first|rfl|(simp_all [beq_dec];done)|(simp_all [beq_dec];omega)
 by_cases h10:kind=10
 ·subst h10;by_cases he:name.toList=[]
  ·have hr:fieldsB ⟨depth,10,name,num,op,at_⟩=(decide (0<=num)&&decide (op=0)):=by simp[fieldsB,he,Bool.and_assoc]
   rw[hr];clear hr;have he1:(name.toList !=[])=false:=by simp[he]
   have he2:(name.toList==[])=true:=by simp[he]
   go_enter Tryz.func54,Tryz.ntmps54;go_wp2_with fail;all_goals
    go_ret;refine⟨?_,(Kin.refl w).alloc _⟩;first|rfl|(simp_all [beq_dec];done)|(simp_all [beq_dec];omega)
  ·have hr:fieldsB ⟨depth,10,name,num,op,at_⟩=false:=by simp[fieldsB,he]
   rw[hr];clear hr;have he1:(name.toList !=[])=true:=by simp[he]
   have he2:(name.toList==[])=false:=by simp[he]
   go_enter Tryz.func54,Tryz.ntmps54;go_wp2_with fail;all_goals
    go_ret;refine⟨?_,(Kin.refl w).alloc _⟩;first|rfl|(simp_all [beq_dec];done)|(simp_all [beq_dec];omega)
 by_cases h11:kind=11
 ·subst h11;by_cases he:name.toList=[]
  ·have hr:fieldsB ⟨depth,11,name,num,op,at_⟩=((decide (num=0) || decide (num=1))&&decide (op=0)):=by simp[fieldsB,he,Bool.and_assoc]
   rw[hr];clear hr;have he1:(name.toList !=[])=false:=by simp[he]
   have he2:(name.toList==[])=true:=by simp[he]
   go_enter Tryz.func54,Tryz.ntmps54;go_wp2_with fail;all_goals
    go_ret;refine⟨?_,(Kin.refl w).alloc _⟩;first|rfl|(simp_all [beq_dec];done)|(simp_all [beq_dec];omega)
  ·have hr:fieldsB ⟨depth,11,name,num,op,at_⟩=false:=by simp[fieldsB,he]
   rw[hr];clear hr;have he1:(name.toList !=[])=true:=by simp[he]
   have he2:(name.toList==[])=false:=by simp[he]
   go_enter Tryz.func54,Tryz.ntmps54;go_wp2_with fail;all_goals
    go_ret;refine⟨?_,(Kin.refl w).alloc _⟩;first|rfl|(simp_all [beq_dec];done)|(simp_all [beq_dec];omega)
 by_cases h12:kind=12
 ·subst h12;have hr:fieldsB ⟨depth,12,name,num,op,at_⟩=(b&&(decide (num=0)&&decide (op=0))):=by simp[fieldsB,HB.out,Bool.and_assoc]
  rw[hr];clear hr;cases b
  ·go_enter Tryz.func54,Tryz.ntmps54;go_wp2_with (go_at_call 100;with_reducible refine(HN.out _).mono ?_;rintro e w1 ⟨rfl,hk1⟩;have c3:w1.cell? ⟨w.heap.size,3,none⟩=some (.int .i64 num):=(hk1.cell (by simp)).trans (by simp[go_sem]));all_goals
    go_ret;refine⟨?_,((Kin.refl w).alloc _).trans hk1⟩;first|rfl|(simp_all [beq_dec];done)|(simp_all [beq_dec];omega)
  ·go_enter Tryz.func54,Tryz.ntmps54;go_wp2_with (go_at_call 100;with_reducible refine(HN.out _).mono ?_;rintro e w1 ⟨rfl,hk1⟩;have c3:w1.cell? ⟨w.heap.size,3,none⟩=some (.int .i64 num):=(hk1.cell (by simp)).trans (by simp[go_sem]));all_goals
    go_ret;refine⟨?_,((Kin.refl w).alloc _).trans hk1⟩;first|rfl|(simp_all [beq_dec];done)|(simp_all [beq_dec];omega)
 by_cases h13:kind=13
 ·subst h13;have hr:fieldsB ⟨depth,13,name,num,op,at_⟩=(b&&(decide (num=0)&&decide (op=0))):=by simp[fieldsB,HB.out,Bool.and_assoc]
  rw[hr];clear hr;cases b
  ·go_enter Tryz.func54,Tryz.ntmps54;go_wp2_with (go_at_call 100;with_reducible refine(HN.out _).mono ?_;rintro e w1 ⟨rfl,hk1⟩;have c3:w1.cell? ⟨w.heap.size,3,none⟩=some (.int .i64 num):=(hk1.cell (by simp)).trans (by simp[go_sem]));all_goals
    go_ret;refine⟨?_,((Kin.refl w).alloc _).trans hk1⟩;first|rfl|(simp_all [beq_dec];done)|(simp_all [beq_dec];omega)
  ·go_enter Tryz.func54,Tryz.ntmps54;go_wp2_with (go_at_call 100;with_reducible refine(HN.out _).mono ?_;rintro e w1 ⟨rfl,hk1⟩;have c3:w1.cell? ⟨w.heap.size,3,none⟩=some (.int .i64 num):=(hk1.cell (by simp)).trans (by simp[go_sem]));all_goals
    go_ret;refine⟨?_,((Kin.refl w).alloc _).trans hk1⟩;first|rfl|(simp_all [beq_dec];done)|(simp_all [beq_dec];omega)
 by_cases h14:kind=14
 ·subst h14;by_cases he:name.toList=[]
  ·have hr:fieldsB ⟨depth,14,name,num,op,at_⟩=(decide (num=0)&&(decide (op=1) || decide (op=2))):=by simp[fieldsB,he,Bool.and_assoc]
   rw[hr];clear hr;have he1:(name.toList !=[])=false:=by simp[he]
   have he2:(name.toList==[])=true:=by simp[he]
   go_enter Tryz.func54,Tryz.ntmps54;go_wp2_with fail;all_goals
    go_ret;refine⟨?_,(Kin.refl w).alloc _⟩;first|rfl|(simp_all [beq_dec];done)|(simp_all [beq_dec];omega)
  ·have hr:fieldsB ⟨depth,14,name,num,op,at_⟩=false:=by simp[fieldsB,he]
   rw[hr];clear hr;have he1:(name.toList !=[])=true:=by simp[he]
   have he2:(name.toList==[])=false:=by simp[he]
   go_enter Tryz.func54,Tryz.ntmps54;go_wp2_with fail;all_goals
    go_ret;refine⟨?_,(Kin.refl w).alloc _⟩;first|rfl|(simp_all [beq_dec];done)|(simp_all [beq_dec];omega)
 by_cases h15:kind=15
 ·subst h15;by_cases he:name.toList=[]
  ·have hr:fieldsB ⟨depth,15,name,num,op,at_⟩=(decide (num=0)&&(decide (3<=op)&&decide (op<=15))):=by simp[fieldsB,he,Bool.and_assoc]
   rw[hr];clear hr;have he1:(name.toList !=[])=false:=by simp[he]
   have he2:(name.toList==[])=true:=by simp[he]
   go_enter Tryz.func54,Tryz.ntmps54;go_wp2_with fail;all_goals
    go_ret;refine⟨?_,(Kin.refl w).alloc _⟩;first|rfl|(simp_all [beq_dec];done)|(simp_all [beq_dec];omega)
  ·have hr:fieldsB ⟨depth,15,name,num,op,at_⟩=false:=by simp[fieldsB,he]
   rw[hr];clear hr;have he1:(name.toList !=[])=true:=by simp[he]
   have he2:(name.toList==[])=false:=by simp[he]
   go_enter Tryz.func54,Tryz.ntmps54;go_wp2_with fail;all_goals
    go_ret;refine⟨?_,(Kin.refl w).alloc _⟩;first|rfl|(simp_all [beq_dec];done)|(simp_all [beq_dec];omega)
 have hr:fieldsB ⟨depth,kind,name,num,op,at_⟩=false:=by simp[fieldsB,h0,h1,h2,h3,h4,h5,h6,h7,h8,h9,h10,h11,h12,h13,h14,h15]
 rw[hr];clear hr;have hout:kind<0\/15<kind:=by omega
 clear h0 h1 h2 h3 h4 h5 h6 h7 h8 h9 h10 h11 h12 h13 h14 h15;rcases hout with hlt|hgt
 ·go_enter Tryz.func54,Tryz.ntmps54;go_wp2_with fail;all_goals
   go_ret;refine⟨?_,(Kin.refl w).alloc _⟩;first|rfl|(simp_all [beq_dec];done)|(simp_all [beq_dec];omega)
 ·have h00:¬kind<0:=by omega
  go_enter Tryz.func54,Tryz.ntmps54;go_wp2_with fail;all_goals
   go_ret;refine⟨?_,(Kin.refl w).alloc _⟩;first|rfl|(simp_all [beq_dec];done)|(simp_all [beq_dec];omega)
theorem zcz(depth kind has k:Int)(w:World):Calls Tryz.prog 56 #[.agg #[.int .i64 depth, .int .i64 kind, .int .i64 has], .int .i64 k] w fun e w'=>e= .returned (.bool (rholds ⟨depth,kind,has⟩ k))/\Kin w w':=by
 have K1:=Lib.hid ((Kin.refl w).alloc (.cells #[.int .i64 depth, .int .i64 kind, .int .i64 has] 105));by_cases h9:kind=9
 ·subst h9;have hr:rholds ⟨depth,9,has⟩ k=zx k:=by simp[rholds]
  rw[hr];clear hr;go_enter Tryz.func56,Tryz.ntmps56;go_wp2_with (go_at_call 55;with_reducible refine(vW _ _).mono ?_;rintro e w3 ⟨rfl,rfl⟩);go_ret;exact⟨rfl,K1.out⟩
 ·by_cases h7:kind=7
  ·subst h7;by_cases h0:has=0
   ·subst h0;have hr:rholds ⟨depth,7,0⟩ k=ze k:=by simp[rholds]
    rw[hr];clear hr;generalize hb:ze k=b;have HB:Hid (∀w,Calls Tryz.prog 101 #[.int .i64 k] w fun e w'=>e= .returned (.bool b)/\w'=w):=Lib.hid (fun w=>by rw[<-hb];exact j8 k w)
    clear hb;cases b;all_goals
     go_enter Tryz.func56,Tryz.ntmps56;go_wp2_with (go_at_call 101;with_reducible refine(HB.out _).mono ?_;rintro e w3 ⟨rfl,rfl⟩);go_ret;exact⟨rfl,K1.out⟩
   ·by_cases h1:has=1
    ·subst h1;have hr:rholds ⟨depth,7,1⟩ k=decide (k=9):=by simp[rholds]
     rw[hr];clear hr;go_enter Tryz.func56,Tryz.ntmps56;go_wp2_with fail;all_goals
      go_ret;exact⟨by first|rfl|simp_all,K1.out⟩
    ·by_cases h2:has=2
     ·subst h2;have hr:rholds ⟨depth,7,2⟩ k=decide (k=9):=by simp[rholds]
      rw[hr];clear hr;go_enter Tryz.func56,Tryz.ntmps56;go_wp2_with fail;all_goals
       go_ret;exact⟨by first|rfl|simp_all,K1.out⟩
     ·have hr:rholds ⟨depth,7,has⟩ k=false:=by simp[rholds,h0,h1,h2]
      rw[hr];clear hr;have b0:(has==0)=false:=by simpa using h0
      have b1:(has==1)=false:=by simpa using h1
      have b2:(has==2)=false:=by simpa using h2
      go_enter Tryz.func56,Tryz.ntmps56;go_wp2_with fail;go_ret;exact⟨rfl,K1.out⟩
  ·by_cases h8:kind=8
   ·subst h8;by_cases h0:has=0
    ·subst h0;have hr:rholds ⟨depth,8,0⟩ k=ze k:=by simp[rholds]
     rw[hr];clear hr;generalize hb:ze k=b;have HB:Hid (∀w,Calls Tryz.prog 101 #[.int .i64 k] w fun e w'=>e= .returned (.bool b)/\w'=w):=Lib.hid (fun w=>by rw[<-hb];exact j8 k w)
     clear hb;cases b;all_goals
      go_enter Tryz.func56,Tryz.ntmps56;go_wp2_with (go_at_call 101;with_reducible refine(HB.out _).mono ?_;rintro e w3 ⟨rfl,rfl⟩);go_ret;exact⟨rfl,K1.out⟩
    ·by_cases h1:has=1
     ·subst h1;have hr:rholds ⟨depth,8,1⟩ k=decide (k=9):=by simp[rholds]
      rw[hr];clear hr;go_enter Tryz.func56,Tryz.ntmps56;go_wp2_with fail;all_goals
       go_ret;exact⟨by first|rfl|simp_all,K1.out⟩
     ·have hr:rholds ⟨depth,8,has⟩ k=false:=by simp[rholds,h0,h1]
      rw[hr];clear hr;have b0:(has==0)=false:=by simpa using h0
      have b1:(has==1)=false:=by simpa using h1
      go_enter Tryz.func56,Tryz.ntmps56;go_wp2_with fail;go_ret;exact⟨rfl,K1.out⟩
   ·have hr:rholds ⟨depth,kind,has⟩ k=(decide (has<rwants kind)&&ze k):=by simp[rholds,h7,h8,h9]
    rw[hr];clear hr;have b7:(kind==7)=false:=by simpa using h7
    have b8:(kind==8)=false:=by simpa using h8
    have b9:(kind==9)=false:=by simpa using h9
    clear h7 h8 h9;generalize hb:ze k=b;have HB:Hid (∀w,Calls Tryz.prog 101 #[.int .i64 k] w fun e w'=>e= .returned (.bool b)/\w'=w):=Lib.hid (fun w=>by rw[<-hb];exact j8 k w)
    clear hb;generalize hx:rwants kind=x;have HX:Hid (∀w,Calls Tryz.prog 53 #[.int .i64 kind] w fun e w'=>e= .returned (.int .i64 x)/\w'=w):=Lib.hid (fun w=>by rw[<-hx];exact rwants_any kind w)
    clear hx;by_cases hlt:has<x
    ·rw[decide_eq_true hlt];go_enter Tryz.func56,Tryz.ntmps56;go_wp2_with fail;go_quiet (first|(go_at_call 101;exact Calls.quiet_of_same (HB.out _))|(go_at_call 53;exact Calls.quiet_of_same (HX.out _)))
     go_wp2;go_ret;exact⟨by cases b<;>rfl,K1.out.drewN _⟩
    ·rw[decide_eq_false hlt];have hge:x<=has:=Int.not_lt.1 hlt;have hd:decide (has<x)=false:=decide_eq_false hlt;have hp:(has<x)=False:=eq_false hlt;clear hlt;go_enter Tryz.func56,Tryz.ntmps56;go_wp2_with fail;go_quiet (first|(go_at_call 101;exact Calls.quiet_of_same (HB.out _))|(go_at_call 53;exact Calls.quiet_of_same (HX.out _)))
     go_wp2;go_ret;exact⟨rfl,K1.out.drewN _⟩
def opC(o:Opn):List Value:=[.int .i64 o.depth, .int .i64 o.kind, .int .i64 o.has]
def zo(st:List Opn):List Value:=st.flatMap opC
theorem j9(st:List Opn):(zo st).length=st.length*3:=by
 induction st with
 |nil=>rfl
 |cons x l ih=>
  have e:zo (x::l)=opC x++zo l:=by simp[zo]
  rw[e,List.length_append,ih];show 3+_=(l.length+1)*3;omega
theorem qV(a b:List Opn):zo (a++b)=zo a++zo b:=by simp[zo]
theorem ziG{L:List Opn}{j:Nat}{t:Opn}(h:L[j]? =some t)(k:Nat)(hk:k<3):(zo L)[j*3+k]? =(opC t)[k]? :=by
 induction L generalizing j with
 |nil=>simp at h
 |cons x l ih=>
  have e:zo (x::l)=opC x++zo l:=by simp[zo]
  have hl:(opC x).length=3:=rfl;rw[e];cases j with
  |zero=>
   simp at h;subst h;rw[List.getElem?_append_left (by omega)]
   congr 1;omega
  |succ j=>
   rw[List.getElem?_append_right (by omega),<-ih (j:=j) (by simpa using h)]
   congr 1;omega
def OwnSt(w:World)(B:Nat)(v:Value)(st:List Opn):Prop:=w.ownsRow B 105 3 v st.length (zo st)
section
variable {w w':World} {B g cap m:Nat} {v:Value} {st:List Opn}
theorem OwnSt.nil(w:World)(B:Nat):OwnSt w B (.slice none 0 0) []:=World.ownsRow_nil _ _ _ _
theorem OwnSt.slice(h:OwnSt w B v st):∃b cap,v= .slice b st.length cap:=by
 rcases h.2 with⟨rfl,hn⟩|⟨g,cap,cur,rfl,_⟩
 ·exact⟨none,0,by rw[hn]⟩
 ·exact⟨_,cap,rfl⟩
theorem OwnSt.form(h:OwnSt w B v st)(hm:st.length=m+1):∃g cap,v= .slice (some ⟨g,0,none⟩) (m+1) cap/\B<=g/\g<w.heap.size/\m+1<=cap:=by
 rcases h.2 with⟨rfl,hn⟩|⟨g,cap,cur,rfl,hb,hg,hc,_⟩
 ·omega
 ·exact⟨g,cap,by rw[hm],hb,(Array.getElem?_eq_some_iff.1 hg).1,by omega⟩
theorem OwnSt.cell(h:OwnSt w B (.slice (some ⟨g,0,none⟩) (m+1) cap) st){j:Nat}{o:Opn}(ho:st[j]? =some o):
 w.cell? ⟨g,j*3,none⟩=some (.int .i64 o.depth)/\w.cell? ⟨g,j*3+1,none⟩=some (.int .i64 o.kind)/\w.cell? ⟨g,j*3+2,none⟩=some (.int .i64 o.has):=by
 have hj:=(List.getElem?_eq_some_iff.1 ho).1;have e:∀k,(⟨g,0,none⟩:Addr).add k=⟨g,k,none⟩:=fun k=>by unfold Addr.add;split<;>simp_all
 have key:∀(k:Nat) (x:Value),k<3->(opC o)[k]? =some x->w.cell? ⟨g,j*3+k,none⟩=some x:=fun k x hk hx=>by
  have:=World.ownsRow.cells h (g:=g) rfl (j*3+k) x ((ziG ho k hk).trans hx)
  rw[e] at this;exact this
 exact⟨key 0 _ (by omega) rfl,key 1 _ (by omega) rfl,key 2 _ (by omega) rfl⟩
theorem OwnSt.froz(h:OwnSt w B (.slice (some ⟨g,0,none⟩) (m+1) cap) st)(hm:st.length=m+1)(j:Nat):w.frozen? ⟨g,j,none⟩=false:=by
 have h':w.ownsRow B 105 3 (.slice (some ⟨g,0,none⟩) (m+1) cap) (m+1) (zo st):=by
  have h2:w.ownsRow B 105 3 (.slice (some ⟨g,0,none⟩) (m+1) cap) st.length (zo st):=h;rw[hm] at h2;exact h2
 exact h'.frozenAt j
theorem OwnSt.pop(h:OwnSt w B (.slice (some ⟨g,0,none⟩) (m+1) cap) st)(hm:st.length=m+1):OwnSt w B (.slice (some ⟨g,0,none⟩) m cap) (st.take m):=by
 have hl:(st.take m).length=m:=by simp;omega
 obtain⟨_,h2⟩:=h
 rcases h2 with⟨h0,_⟩|⟨g',cap',cur,hv,hg,hh,hn,hcap,hsz,htake⟩
 ·cases h0
 ·simp only[Value.slice.injEq,Option.some.injEq,Addr.mk.injEq,and_true] at hv;obtain⟨rfl,_,rfl⟩:=hv
  refine⟨j9 _, .inr ⟨g,cap,cur,by rw[hl],hg,hh,by omega,hcap,hsz,?_⟩⟩
  have e:zo st=zo (st.take m)++zo (st.drop m):=by rw[<-qV,List.take_append_drop]
  rw[e] at htake;have hx:(zo (st.take m)).length=m*3:=by rw[j9,hl]
  have h3:=congrArg (List.take (m*3)) htake;rw[List.take_take,Nat.min_eq_left (by omega)] at h3
  have h4:(zo (st.take m)++zo (st.drop m)).take (m*3)=zo (st.take m):=by rw[<-hx];exact List.take_left ..
  rw[hl,h3,h4]
theorem OwnSt.kin(h:OwnSt w B v st)(k:Kin w w'):OwnSt w' B v st:=by
 refine⟨h.1,?_⟩;rcases h.2 with hn|⟨g,cap,cur,rfl,hb,hgg,rest⟩
 ·exact .inl hn
 ·exact .inr ⟨g,cap,cur,rfl,hb,(k.block g (Array.getElem?_eq_some_iff.1 hgg).1).trans hgg,rest⟩
theorem OwnSt.setHas(h:OwnSt w B (.slice (some ⟨g,0,none⟩) (m+1) cap) st)(hm:st.length=m+1){o:Opn}(ho:st[m]? =some o)(x:Int):OwnSt (w.setCell ⟨g,m*3+2,none⟩ (.int .i64 x)) B (.slice (some ⟨g,0,none⟩) (m+1) cap) (st.take m++[{o with has:=x}]):=by
 have h':w.ownsRow B 105 3 (.slice (some ⟨g,0,none⟩) (m+1) cap) (m+1) (zo st):=by
  have h2:w.ownsRow B 105 3 (.slice (some ⟨g,0,none⟩) (m+1) cap) st.length (zo st):=h;rw[hm] at h2;exact h2
 have hs:=(h'.stored (m*3+2) (.int .i64 x)).1;have hst:st=st.take m++[o]:=by
  have:=List.take_append_drop m st
  have hd:st.drop m=[o]:=by
   rw[List.drop_eq_getElem_cons (by omega)]
   have h1:st[m]'(by omega)=o:=by
    have:=List.getElem?_eq_getElem (l:=st) (i:=m) (by omega)
    rw[ho] at this;exact(Option.some.inj this).symm
   rw[h1,List.drop_eq_nil_of_le (by omega)]
  rw[<-hd,this]
 have e:(zo st).set (m*3+2) (.int .i64 x)=zo (st.take m++[{o with has:=x}]):=by
  have hx:(zo (st.take m)).length=m*3:=by rw[j9];simp;omega
  conv=>lhs;rw[hst]
  rw[qV,qV,List.set_append_right _ _ (by omega),hx]
  congr 1;have:m*3+2-m*3=2:=by omega
  rw[this];simp[zo,opC]
 have hl:(st.take m++[({o with has:=x}:Opn)]).length=m+1:=by simp;omega
 unfold OwnSt;rw[hl,<-e];exact hs
end
theorem zbV{d:Int}{st:List Opn}{m:Nat}(h1:m=0\/∃x,st[m-1]? =some x/\x.depth<d)(h2:∀(j:Nat) (y:Opn),m<=j->st[j]? =some y->d<=y.depth):rcut d st=m:=by
 unfold rcut;refine wS ?_ fun j y hj hy=>?_
 ·rcases h1 with h|⟨x,hx,hd⟩
  ·exact .inl h
  ·exact .inr ⟨x,hx,decide_eq_true hd⟩
 ·have:=h2 j y hj hy
  exact decide_eq_false (by omega)
theorem zhx{d:Int}{st:List Opn}{m:Nat}(h2:∀(j:Nat) (y:Opn),m<=j->st[j]? =some y->d<=y.depth):rcut d st<=m:=by
 unfold rcut;rcases cutN_last (fun t:Opn=>decide (t.depth<d)) st with h|⟨x,hx,hd⟩
 ·omega
 ·rcases Nat.lt_or_ge m (cutN (fun t:Opn=>decide (t.depth<d)) st) with h'|h'
  ·have:=h2 _ x (by omega) hx
   have hd':x.depth<d:=by simpa using hd
   omega
  ·exact h'
theorem zag{st:List Opn}{begun:Bool}{n:Nd}{m:Nat}{o:Opn}(ho:st[m]? =some o)(hl:lacks o=true)(h2:∀(j:Nat) (y:Opn),m<=j->st[j]? =some y->n.depth<=y.depth):yA st begun n=none:=by
 unfold yA;rw[if_pos];rw[List.any_eq_true];have hc:=zhx h2;exact⟨o,List.mem_iff_getElem?.2 ⟨m-rcut n.depth st,by rw[List.getElem?_drop,show rcut n.depth st+(m-rcut n.depth st)=m from by omega];exact ho⟩,hl⟩
theorem zai{st:List Opn}{m:Nat}(h:∀(j:Nat) (y:Opn),m<=j->st[j]? =some y->lacks y=false):¬((st.drop m).any lacks=true):=by
 rw[List.any_eq_true];rintro⟨y,hy,hl⟩
 obtain⟨j,hj⟩:=List.mem_iff_getElem?.1 hy
 rw[List.getElem?_drop] at hj;rw[h _ y (by omega) hj] at hl
 cases hl
theorem OwnSt.take{w:World}{B cap M:Nat}{b:Option Addr}{st:List Opn}(h:OwnSt w B (.slice b M cap) st)(hM:st.length=M){m:Nat}(hm:m<=M):OwnSt w B (.slice b m cap) (st.take m):=by
 have key:∀k M b (st:List Opn),OwnSt w B (.slice b M cap) st->st.length=M->M=m+k->OwnSt w B (.slice b m cap) (st.take m):=by
  intro k;induction k with
  |zero=>intro M b st h hM e;obtain rfl:M=m:=by omega
         rw[List.take_of_length_le (by omega)];exact h
  |succ k ih=>
   intro M b st h hM e;obtain⟨M',rfl⟩:∃M',M=M'+1:=⟨m+k,by omega⟩
   obtain⟨g,cap',hv,_⟩:=h.form hM
   cases hv;have:=ih M' _ _ (h.pop hM) (by simp;omega) (by omega)
   rw[List.take_take,Nat.min_eq_left (by omega)] at this
   exact this
 exact key (M-m) M b st h hM (by omega)
end Go.Proofs.YtonmcakdofbjiaaGreatDoor
