/- A part. -/
import Derived.Test.YtonmcakdofbjiaaGreatDoorM17
import Derived.Test.YtonmcakdofbjiaaGreatDoorM14
import Derived.Lib.ItoaNum
set_option linter.all false
set_option maxRecDepth 100000
set_option maxHeartbeats 8000000
namespace Go.Proofs.YtonmcakdofbjiaaGreatDoor
open Go.RowKit Go.Bsd
theorem ziC{C C':Ctx}(hl:C.l=C'.l)(he:C.e=C'.e):∀(f:Nat) (nt:NT) (i:Nat),rd C f nt i=rd C' f nt i:=by
 intro f;induction f with
 |zero=>intro nt i;cases nt<;>rfl
 |succ f ih=>
  intro nt i;have h1:∀s i,zp C s i=zp C' s i:=fun s i=>by unfold zp;rw[hl,he]
  have h2:∀i,yU C i=yU C' i:=fun i=>by unfold yU;rw[hl,he]
  have h3:∀i,ym C i=ym C' i:=fun i=>by unfold ym;rw[hl,he]
  cases nt<;>simp only[rd,ih,h1,h2,h3,hl,he]<;>rfl
def ctx0(s:ByteArray):Ctx:=⟨zr (pieces s),s.size,0,undef,0,0⟩
def qT(s:ByteArray)(o:POut):Prop:=
 if 8192<s.size then o= .fault 21 8192
 else if (badOf (pieces s)).1≠0 then o= .fault (badOf (pieces s)).1 (badOf (pieces s)).2
 else ∃f r,rd (ctx0 s) f .prog 0=some r/\o=xR r
theorem run_callf{f:FuncId}{fn:Func}(hf:Tryz.prog.funcs[f]? =some fn)(hn:(fn.name== "runtime.NumGoroutine")=false)(hb:fn.body.isNone=false){o:Oper}{ags:Array Operand}{ts:Array TypeId}(ho:o.op= .call {callee:= .value (.func f),args:=ags,argTypes:=ts})(a:Act)(w:World):
 (execOp a.eval o).run Tryz.prog w= .ok (.enter f (ags.map a.eval)) w:=by
 unfold execOp;rw[ho];simp[resolve,Deferred.ofValue,Act.eval,qc,invoke];exact yO hf hn hb _ w
theorem kA(hP:TameProg Tryz.prog){Q:Exit->Act->World->Prop}{a:Act}{w:World}{ops:Array Oper}{o:Oper}{l:List Oper}{f:FuncId}{fn:Func}{ags:Array Operand}{ts:Array TypeId}{args:Array Value}(hf:Tryz.prog.funcs[f]? =some fn)(hn:(fn.name== "runtime.NumGoroutine")=false)(hb:fn.body.isNone=false)
 (hw:Region.wanted o (yielded ops a.tmps)=true) (ho:o.op= .call {callee:= .value (.func f),args:=ags,argTypes:=ts}) (ha:ags.map a.eval=args)
 (h:CallsB Tryz.prog f args w fun
  | .returned v,w'=>yY Tryz.prog ops Q l (a.put o.dst v) w'
  | .panicked chain,w'=>Q (.panic chain) a w'
  | .outgrown,_=>False):yY Tryz.prog ops Q (o::l) a w:=by
 subst ha;exact zcN hP hw (fun T d=>run_callf hf hn hb ho a _) h
noncomputable def pk1:Code:=seqL (seqR pk0)
theorem ziE:∃id,pk1= .region id (zw pk1) false:=⟨_,rfl⟩
theorem gt(hP:TameProg Tryz.prog)(s:ByteArray)(hs:s.size<=9223372036854775807)(te:TypeId)(pe:Value)(w:World)(hv:VarsOk w)(ce:w.cell? ⟨0,0,none⟩=some (.iface te pe))(o:POut)(ho:qT s o):
 CallsB Tryz.prog 14 #[.string s] w (xJ te pe w o):=by
 refine jW Tryz.func14 (c:=pk0) rfl ?_;have e0:pk0= .seq (seqL pk0) (.seq pk1 pk2):=rfl;rw[e0];have ha:(#[Value.string s]++Array.replicate (Tryz.f14.ntmps- #[Value.string s].size) undef)= #[.string s,undef,undef,undef,undef,undef,undef,undef,undef,undef,undef,undef,undef,undef,undef,undef,undef,undef,undef,undef,undef,undef,undef,undef,undef,undef,undef,undef,undef,undef,undef,undef,undef,undef,undef,undef,undef,undef,undef,undef,undef,undef,undef,undef,undef,undef,undef,undef,undef,undef,undef,undef,undef,undef,undef,undef,undef,undef,undef,undef,undef,undef,undef,undef,undef]:=by
  simp only[Tryz.ntmps14];simp[Array.replicate_succ]
 rw[ha];have hR:∀w',¬xJ te pe w o .outgrown w':=fun w' h=>h;refine jg hP Tryz.func14 hR (xu hP fun T d=>?_);generalize hB:bodyPost Tryz.prog Tryz.f14 (xJ te pe w o)=B;generalize hY:(Code.seq pk1 pk2)=Y;have HV:=Lib.hid hv;have HO:=Lib.hid ho;have HCE:=Lib.hid ce;clear hv ho ce;simp only[seqL,pk0,Tryz.f14,Option.getD_some];go_wp2;subst hY;rw[show(((re w T d).alloc (Obj.cells #[Value.slice none 0 0] 25)).alloc (Obj.cells #[Value.nilIface] 27))=re ((w.alloc (Obj.cells #[Value.slice none 0 0] 25)).alloc (Obj.cells #[Value.nilIface] 27)) T d from rfl];subst hB;generalize hW:(w.alloc (Obj.cells #[Value.slice none 0 0] 25)).alloc (Obj.cells #[Value.nilIface] 27)=W;have k1:Kin w W:=by
  have g1:=World.grownBy_alloc w (Obj.cells #[Value.slice none 0 0] 25) none;have g2:=World.grownBy_alloc (w.alloc (Obj.cells #[Value.slice none 0 0] 25)) (Obj.cells #[Value.nilIface] 27) none;have s1:=g1.size;have s2:=g2.size;subst hW;exact⟨rfl,rfl,by omega,fun k hk=>(g2.block k (by omega) (by simp)).trans (g1.block k hk (by simp))⟩
 have c2:W.cell? ⟨w.heap.size,0,none⟩=some (.slice none 0 0):=by subst hW;simp[go_sem]
 have c3:W.cell? ⟨w.heap.size+1,0,none⟩=some .nilIface:=by subst hW;simp[go_sem]
 have f2:W.frozen? ⟨w.heap.size,0,none⟩=false:=by subst hW;simp[go_sem]
 have f3:W.frozen? ⟨w.heap.size+1,0,none⟩=false:=by subst hW;simp[go_sem]
 have l3:w.heap.size+1<W.heap.size:=by subst hW;simp
 have hz:0<w.heap.size:=World.block_lt_of_cell? w ⟨0,0,none⟩ HCE.out;clear hW ha e0;intro cs;refine Bes.tape (T:=T) (d:=d) ?_;revert cs;show jt Tryz.prog 14 _ _ _ W;refine jg hP Tryz.func14 hR ?_;obtain⟨id,hid⟩:=ziE
 rw[hid];generalize hB:bodyPost Tryz.prog Tryz.f14 (xJ te pe w o)=B;clear hB hid;generalize hX:pk2=X;simp only[pk1,pk0,seqL,seqR,zw,Tryz.f14,Option.getD_some];subst hX;refine jr hP (l:=[_,_,_,_,_,_,_,_,_]) ?_;refine listB_cut hP [_] [_,_,_,_,_,_,_,_] fun T d=>?_;generalize hN:yY Tryz.prog _ _ _=N;go_wp2;subst hN;refine uT ?_;refine kA hP Tryz.func40 (by kernel_rfl) (by kernel_rfl) rfl rfl (args:= #[.string s]) (by simp[Act.eval,qc]) ((zce hP s hs W (HV.out.kin k1)).mono ?_)
 rintro e w1 hpost;cases e with
 |outgrown=>exact hpost.elim
 |panicked _=>exact hpost.elim
 |returned v=>
  obtain⟨kin,hres⟩:=hpost
  have kw:Kin w w1:=k1.trans kin;have d2:w1.cell? ⟨w.heap.size,0,none⟩=some (.slice none 0 0):=(kin.cell (by omega)).trans c2
  have d3:w1.cell? ⟨w.heap.size+1,0,none⟩=some .nilIface:=(kin.cell l3).trans c3;have g2:w1.frozen? ⟨w.heap.size,0,none⟩=false:=(kin.frozen (by omega)).trans f2
  have g3:w1.frozen? ⟨w.heap.size+1,0,none⟩=false:=(kin.frozen l3).trans f3;have l4:w.heap.size+1<w1.heap.size:=by have:=kin.size;omega
  have ce1:w1.cell? ⟨0,0,none⟩=some (.iface te pe):=(kw.cell hz).trans HCE.out;have hsz:=k1.size;have hO:=HO.out;unfold qT at hO;unfold TokRes at hres;show yY Tryz.prog _ _ _ _ w1;by_cases h1:8192<s.size
  ·rw[if_pos h1] at hres hO;subst hres hO;have hfin:=fun T d=>parse_bad s te pe w (re w1 T d) w.heap.size (.slice none 0 0) 21 8192 (by decide) rfl (Kin.mk kw.os kw.out kw.size kw.block) d2 d3 g2 g3 l4 ce1
   have HT:=Lib.hid (js hP Tryz.func14 hR hfin);clear hfin d2 d3 g2 g3 l4 ce1 kw kin h1 c2 c3 f2 f3 l3;generalize hX:pk2=X at HT⊢;clear hX;generalize hN:Exit.then (jt Tryz.prog 14 _ X) B=N;refine listB_lift hP fun T d=>?_;go_wp2;subst hN;exact HT.out
  ·rw[if_neg h1] at hres hO;by_cases h2:(badOf (pieces s)).1≠0
   ·rw[if_pos h2] at hres hO;subst hres hO;have hfin:=fun T d=>parse_bad s te pe w (re w1 T d) w.heap.size (.slice none 0 0) (badOf (pieces s)).1 (badOf (pieces s)).2 h2 rfl (Kin.mk kw.os kw.out kw.size kw.block) d2 d3 g2 g3 l4 ce1;have HT:=Lib.hid (js hP Tryz.func14 hR hfin);clear hfin d2 d3 g2 g3 l4 ce1 kw kin h1 c2 c3 f2 f3 l3;generalize hX:pk2=X at HT⊢;clear hX;generalize (badOf (pieces s)).1=x1 at HT⊢;generalize (badOf (pieces s)).2=x2 at HT⊢;generalize hN:Exit.then (jt Tryz.prog 14 _ X) B=N;refine listB_lift hP fun T d=>?_;go_wp2;subst hN;exact HT.out
   ·rw[if_neg h2] at hres hO;obtain⟨sl,rfl,hown⟩:=hres
    obtain⟨f,r,hr,rfl⟩:=hO
    have hL:(zr (pieces s)).length<=8193:=by
     have a1:=kP s;have a2:(zr (pieces s)).length<=(pieces s).length:=List.length_filter_le _ _;omega
    have hfin:=fun T d=>zcC s (by omega) te pe w (re w1 T d) w.heap.size f sl 0 r ((ziC (C:=ctxOf s te pe w1.heap.size sl) (C':=ctx0 s) rfl rfl f .prog 0).trans hr) rfl (Kin.mk kw.os kw.out kw.size kw.block) d2 d3 g2 g3 l4 ce1 W.heap.size hown hL
    have HT:=Lib.hid (js hP Tryz.func14 hR hfin);clear hfin d2 d3 g2 g3 l4 ce1 kw kin h1 c2 c3 f2 f3 l3 hown hr;generalize hX:pk2=X at HT⊢;clear hX;generalize hN:Exit.then (jt Tryz.prog 14 _ X) B=N;refine listB_lift hP fun T d=>?_;go_wp2;subst hN;exact HT.out
open Go.RowKit
def zju:ByteArray:={data:= #[115,107,105,112,59]}
def zjt:ByteArray:={data:= #[115,107,105,112]}
def zjv:ByteArray:={data:= #[59]}
def zjC:Nat->ByteArray
 |0=>{data:= #[]}
 |m+1=>zjC m++zju
theorem zcV(s t:ByteArray)(i k:Nat)(hk:k=i+t.size)(h:k<=s.size)(hg:∀r (hr:r<t.size),s[i+r]'(by omega)=t[r]):s.extract i k=t:=by
 subst hk;have hz:(s.extract i (i+t.size)).size=t.size:=by simp[ByteArray.size_extract];omega
 apply ByteArray.ext;apply Array.ext
 ·exact hz
 ·intro r h1 h2;obtain⟨_,e⟩:=ud s i (i+t.size) r h h1
  exact e.trans (hg r h2)
section
variable {m j:Nat}
def zjq(i:Nat):Item:=⟨0,zjt,0,i,0,0⟩
def zjw(i:Nat):Item:=⟨2,zjv,0,i,0,0⟩
end
def ziA:Nat->Nat->List Item
 |0,_=>[]
 |n+1,j=>zjq (5*j)::zjw (5*j+4)::ziA n (j+1)
section
variable {C:Ctx} {m:Nat}
def zhr:Nat->Nat->List Tr
 |0,_=>[]
 |n+1,i=>leafT 6 za 0 0 ((5*i:Nat):Int) []::zhr n (i+1)
end
def zhs:Nat->Nat->List Nd
 |0,_=>[]
 |n+1,i=>⟨1,6,za,0,0,((5*i:Nat):Int)⟩::zhs n (i+1)
def zjH:ByteArray:={data:= #[120,32,58,61,32]}
def zgM:Nat->ByteArray
 |0=>zjH
 |k+1=>zgM k++{data:= #[33]}
def zcK(k:Nat):ByteArray:=zgM k++{data:= #[121,59]}
def zki(k:Nat):Bool:=decide ((zcK k).size<=8192)&&decide ((badOf (pieces (zcK k))).1=0)&&match (rd (ctx0 (zcK k)) 400 .prog 0).map xR with
 |some (.tree l)=>decide (k<=22)&&decide (l.length=k+2)&&(match l[k+1]? with
  |some n=>decide (n.depth=k+2)&&decide (n.at_=5+k)
  |none=>false)
 |some (.fault x p)=>decide (22<k)&&decide (x=31)&&decide (p=28)
 |none=>false
abbrev Pc:=List UInt8×ByteArray
def zd:List (List UInt8):=[[32],[10],[9,13],[32,35,59,32,125,10],[32,32]]
def bytesOf:List Pc->List UInt8
 |[]=>[]
 |x::l=>x.1++x.2.data.toList++bytesOf l
theorem qd:∀(a b:List Pc),bytesOf (a++b)=bytesOf a++bytesOf b
 |[],b=>rfl
 |x::a,b=>by simp[bytesOf,qd a b]
def zK(p:ByteArray):Int:=(p.data.toList.headD 0).toNat
def zX(p:ByteArray)(i:Nat):Item:=if isLetter (zK p) then ⟨0,p,0,i,0,0⟩ else if isDigit (zK p) then ⟨1,p,(numOf p).1,i,0,0⟩ else ⟨2,p,0,i,0,0⟩
def its:Nat->List Pc->List Item
 |_,[]=>[]
 |i,x::l=>zX x.2 (i+x.1.length)::its (i+x.1.length+x.2.size) l
def szOf(l:List Pc):Nat:=(bytesOf l).length
theorem zq(x:Pc)(l:List Pc):szOf (x::l)=x.1.length+x.2.size+szOf l:=by
 have:x.2.data.toList.length=x.2.size:=Array.length_toList
 simp[szOf,bytesOf];omega
theorem szOf_append(a b:List Pc):szOf (a++b)=szOf a+szOf b:=by simp[szOf,qd]
theorem kC:∀(a b:List Pc) (i:Nat),its i (a++b)=its i a++its (i+szOf a) b
 |[],b,i=>by simp[its,szOf,bytesOf]
 |x::a,b,i=>by
  simp only[List.cons_append,its,kC a b,zq];rw[show i+x.1.length+x.2.size+szOf a=i+(x.1.length+x.2.size+szOf a) from by omega]
theorem vK:∀(a:List Pc) (i:Nat),(its i a).length=a.length
 |[],_=>rfl
 |x::a,i=>by simp[its,vK a]
inductive Good:ByteArray->Prop
 |word {p:ByteArray} (h1:isLetter (zK p)=true) (h2:∀b∈p.data.toList,yn (b.toNat:Int)=true) (h3:p.size<=16) (h4:0<p.size):Good p
 |num {p:ByteArray} (h1:∀b∈p.data.toList,isDigit (b.toNat:Int)=true) (h2:(numOf p).2=0) (h4:0<p.size):Good p
 |two {p:ByteArray} (h:p.data.toList∈twos):Good p
 |one {p:ByteArray} (b:UInt8) (h:p.data.toList=[b]) (h1:(b.toNat:Int)∈ones):Good p
def ByAt(s:ByteArray)(i:Nat)(l:List UInt8):Prop:=∀(r:Nat) b,l[r]? =some b->s.data.toList[i+r]? =some b
theorem zaH{s:ByteArray}{k:Nat}{b:UInt8}(h:s.data.toList[k]? =some b):∃h:k<s.size,s[k]=b:=by
 rw[Array.getElem?_toList] at h;obtain⟨h1,h2⟩:=Array.getElem?_eq_some_iff.1 h
 exact⟨h1,h2⟩
theorem ByAt.get{s:ByteArray}{i r:Nat}{l:List UInt8}{b:UInt8}(h:ByAt s i l)(hr:l[r]? =some b):∃h:i+r<s.size,s[i+r]=b:=zaH (h r b hr)
theorem ByAt.left{s:ByteArray}{i:Nat}{a b:List UInt8}(h:ByAt s i (a++b)):ByAt s i a:=fun r x hr=>h r x (by rw[List.getElem?_append_left (List.getElem?_eq_some_iff.1 hr).1];exact hr)
theorem ByAt.right{s:ByteArray}{i:Nat}{a b:List UInt8}(h:ByAt s i (a++b)):ByAt s (i+a.length) b:=fun r x hr=>by
 have:=h (a.length+r) x (by rw[List.getElem?_append_right (by omega)];simpa using hr)
 rw[Nat.add_assoc];exact this
def EndAt(s:ByteArray)(k:Nat):Prop:=k=s.size\/∃b,s.data.toList[k]? =some b/\isBlank (b.toNat:Int)=true
theorem blank_is{b:UInt8}(h:isBlank (b.toNat:Int)=true):b=9\/b=10\/b=13\/b=32:=by
 unfold isBlank at h;simp only[Bool.or_eq_true,beq_iff_eq] at h;have e:∀n:UInt8,(b.toNat:Int)=(n.toNat:Int)->b=n:=fun n hn=>UInt8.toNat_inj.1 (by omega)
 rcases h with((h|h)|h)|h
 ·exact .inl (e 9 h)
 ·exact .inr (.inl (e 10 h))
 ·exact .inr (.inr (.inl (e 13 h)))
 ·exact .inr (.inr (.inr (e 32 h)))
theorem EndAt.no{s:ByteArray}{k:Nat}(h:EndAt s k){pred:Int->Bool}(hp:pred 9=false/\pred 10=false/\pred 13=false/\pred 32=false)(hk:k<s.size):pred (s[k].toNat:Int)=false:=by
 rcases h with h|⟨b,hb,hbl⟩
 ·omega
 ·obtain⟨_,rfl⟩:=zaH hb
  obtain⟨a,b,c,d⟩:=hp
  rcases blank_is hbl with e|e|e|e<;>rw[e]<;>assumption
theorem upto_by{pred:Int->Bool}{s:ByteArray}{i:Nat}{l:List UInt8}(h:ByAt s i l)(hp:∀b∈l,pred (b.toNat:Int)=true)(he:∀h:i+l.length<s.size,pred (s[i+l.length].toNat:Int)=false)(hz:i+l.length<=s.size):upto pred s i=i+l.length:=by
 refine(upto_of ⟨by omega,hz,fun j hj h1 h2=>?_,he⟩).symm
 have hr:j-i<l.length:=by omega
 obtain⟨h3,h4⟩:=h.get (List.getElem?_eq_getElem hr)
 have e:i+(j-i)=j:=by omega
 have e2:s[j]=l[j-i]:=by rw[<-h4];congr 1;exact e.symm
 rw[e2];exact hp _ (List.getElem_mem hr)
theorem qF{s p:ByteArray}{i k:Nat}(hk:k=i+p.size)(h:ByAt s i p.data.toList):s.extract i k=p:=by
 by_cases hz:p.size=0
 ·have e:p=⟨#[]⟩:=ByteArray.ext (Array.eq_empty_of_size_eq_zero hz);subst hk;subst e;apply ByteArray.ext;apply Array.eq_empty_of_size_eq_zero;show(s.extract i (i+0)).size=0
  simp[ByteArray.size_extract]
 ·have hget:∀r (hr:r<p.size),∃h:i+r<s.size,s[i+r]=p[r]:=fun r hr=>h.get (by rw[Array.getElem?_toList];exact Array.getElem?_eq_getElem hr)
  obtain⟨h1,_⟩:=hget (p.size-1) (by omega)
  exact zcV s p i k hk (by omega) fun r hr=>(hget r hr).2
theorem kn{s p:ByteArray}{i:Nat}(h:ByAt s i p.data.toList)(hp:0<p.size):∃hl:i<s.size,(s[i].toNat:Int)=zK p:=by
 have hl:p.data.toList.length=p.size:=Array.length_toList;have hg:p.data.toList[0]? =some (p.data.toList.headD 0):=by
  cases hc:p.data.toList with
  |nil=>rw[hc] at hl;simp at hl;omega
  |cons a b=>rfl
 obtain⟨h1,h2⟩:=h.get hg
 exact⟨h1,by show((s[i]'_).toNat:Int)=_;rw[show s[i]'(by simpa using h1)=p.data.toList.headD 0 from h2];rfl⟩
theorem xn{x:Int}(h:isDigit x=true):isLetter x=false:=by
 unfold isDigit at h;unfold isLetter;simp only[Bool.and_eq_true,decide_eq_true_eq] at h;simp only[Bool.or_eq_false_iff,Bool.and_eq_false_iff,decide_eq_false_iff_not];omega
theorem zfy{s p:ByteArray}{i:Nat}(h:ByAt s i p.data.toList)(ht:p.data.toList∈twos):signAt s i=p/\isLetter (zK p)=false/\isDigit (zK p)=false/\p.size=2:=by
 have hl:p.data.toList.length=p.size:=Array.length_toList;have h2:p.size=2:=by
  rw[<-hl];generalize p.data.toList=l at ht⊢;revert ht;revert l;decide
 have he:=qF (k:=i+2) (by omega) h
 obtain⟨h1,_⟩:=h.get (r:=1) (List.getElem?_eq_getElem (by omega))
 refine⟨?_,?_,?_,h2⟩
 ·unfold signAt;rw[if_pos ⟨h1,by rw[he,List.any_eq_true];exact⟨_,ht,by simp[ByteArray.toList_eq]⟩⟩,he]
 ·unfold zK;generalize p.data.toList=l at ht⊢;revert ht;revert l;decide
 ·unfold zK;generalize p.data.toList=l at ht⊢;revert ht;revert l;decide
theorem zfO{b:UInt8}(h1:(b.toNat:Int)∈ones):isLetter (b.toNat:Int)=false/\isDigit (b.toNat:Int)=false/\isBlank (b.toNat:Int)=false/\(b.toNat:Int)≠35:=by
 generalize (b.toNat:Int)=x at h1⊢;revert h1;revert x;decide
theorem zfz{s p:ByteArray}{i:Nat}{b:UInt8}(h:ByAt s i p.data.toList)(hb:p.data.toList=[b])(h1:(b.toNat:Int)∈ones)(he:EndAt s (i+1)):signAt s i=p/\p.size=1:=by
 have hl:p.data.toList.length=p.size:=Array.length_toList;have hz:p.size=1:=by rw[<-hl,hb];rfl
 have hx:=qF (k:=i+1) (by omega) h
 have hb0:p.data.toList[0]? =some b:=by rw[hb];rfl
 obtain⟨h2,h3⟩:=h.get hb0
 have h3':s[i]'(by simpa using h2)=b:=h3
 refine⟨?_,hz⟩;unfold signAt;rw[if_neg,dif_pos (show i<s.size by simpa using h2),if_pos (by rw[h3',List.any_eq_true];exact⟨_,h1,by simp⟩),hx]
 rintro⟨a,c⟩
 rcases he with he|⟨y,hy,hbl⟩
 ·omega
 ·rw[List.any_eq_true] at c;obtain⟨t,ht,he⟩:=c
  have e2:s.extract i (i+2)=⟨#[b,y]⟩:=by
   refine qF (by show _=_+2;omega) fun r x hr=>?_
   match r,hr with
   |0,hr=>simp at hr;subst hr;exact h 0 b hb0
   |1,hr=>simp at hr;subst hr;exact hy
  rw[e2] at he;have het:t=[b,y]:=by
   rw[ByteArray.toList_eq] at he;exact(eq_of_beq he).symm
  subst het;have hyn:y=61\/y=38\/y=124:=by
   clear he hbl hy e2;simp[twos] at ht;rcases ht with⟨_,h⟩|⟨_,h⟩|⟨_,h⟩|⟨_,h⟩|⟨_,h⟩|⟨_,h⟩|⟨_,h⟩<;>simp[h]
  rcases hyn with rfl|rfl|rfl<;>exact absurd hbl (by decide)
theorem item_at{s p:ByteArray}{i:Nat}(hg:Good p)(h:ByAt s i p.data.toList)(he:EndAt s (i+p.size))(hz:i+p.size<=s.size):itemAt s i=zX p i/\0<p.size/\(∃hl:i<s.size,isBlank (s[i].toNat:Int)=false/\(s[i].toNat:Int)≠35):=by
 have hl:p.data.toList.length=p.size:=Array.length_toList;cases hg with
 |word h1 h2 h3 h4=>
  obtain⟨hi,hh⟩:=kn h h4
  refine⟨?_,h4,hi,?_,?_⟩
  ·unfold itemAt zX;rw[if_pos (by unfold letterAt;rw[dif_pos hi,hh];exact h1),if_pos h1]
   unfold wordAt;rw[upto_by h h2 (fun hh=>by
    have:=he.no (pred:=yn) (by decide) (by rw[hl] at hh;exact hh)
    simpa only [hl] using this) (by omega),hl,if_neg (by omega),qF rfl h]
  ·rw[hh];revert h1;unfold isLetter isBlank;intro h1;simp only[Bool.or_eq_true,Bool.and_eq_true,decide_eq_true_eq] at h1;simp only[Bool.or_eq_false_iff,beq_eq_false_iff_ne];omega
  ·rw[hh];unfold isLetter at h1;simp only[Bool.or_eq_true,Bool.and_eq_true,decide_eq_true_eq] at h1;omega
 |num h1 h2 h4=>
  obtain⟨hi,hh⟩:=kn h h4
  have hd:isDigit (zK p)=true:=by
   unfold zK;cases hc:p.data.toList with
   |nil=>rw[hc] at hl;simp at hl;omega
   |cons a b=>exact h1 a (by rw[hc];simp)
  refine⟨?_,h4,hi,?_,?_⟩
  ·unfold itemAt zX;rw[if_neg (by unfold letterAt;rw[dif_pos hi,hh,xn hd];decide),if_pos (by unfold z7;rw[dif_pos hi,hh];exact hd),if_neg (by rw[xn hd];decide),if_pos hd]
   unfold numAt;rw[upto_by h h1 (fun hh=>by
    have:=he.no (pred:=isDigit) (by decide) (by rw[hl] at hh;exact hh)
    simpa only [hl] using this) (by omega),hl,qF rfl h,if_neg]
   rintro(h5|h5)
   ·exact h5 h2
   ·unfold letterAt at h5
    split at h5
    ·rw[he.no (pred:=isLetter) (by decide)] at h5;cases h5
    ·cases h5
  ·rw[hh];unfold isDigit at hd;unfold isBlank;simp only[Bool.and_eq_true,decide_eq_true_eq] at hd;simp only[Bool.or_eq_false_iff,beq_eq_false_iff_ne];omega
  ·rw[hh];unfold isDigit at hd;simp only[Bool.and_eq_true,decide_eq_true_eq] at hd;omega
 |two ht=>
  obtain⟨hs,a,b,h4⟩:=zfy h ht
  obtain⟨hi,hh⟩:=kn h (by omega)
  have hc:isBlank (zK p)=false/\zK p≠35:=by
   unfold zK;generalize p.data.toList=l at ht⊢;revert ht;revert l;decide
  refine⟨?_,by omega,hi,by rw[hh];exact hc.1,by rw[hh];exact hc.2⟩
  unfold itemAt zX;rw[if_neg (by unfold letterAt;rw[dif_pos hi,hh,a];decide),if_neg (by unfold z7;rw[dif_pos hi,hh,b];decide),hs,if_neg,if_neg (by rw[a];decide),if_neg (by rw[b];decide)]
  rw[ByteArray.toList_eq];intro h5;have:p.data.toList=[]:=by simpa using h5
  rw[this] at hl;simp at hl;omega
 |one b hb h1=>
  have hz1:p.size=1:=by rw[<-hl,hb];rfl
  obtain⟨hs,h4⟩:=zfz h hb h1 (by rw[hz1] at he;exact he)
  obtain⟨hi,hh⟩:=kn h (by omega)
  have hb':zK p=(b.toNat:Int):=by unfold zK;rw[hb];rfl
  obtain⟨a,c,d,e⟩:=zfO h1
  rw[<-hb'] at a c d e;refine⟨?_,by omega,hi,by rw[hh];exact d,by rw[hh];exact e⟩
  unfold itemAt zX;rw[if_neg (by unfold letterAt;rw[dif_pos hi,hh,a];decide),if_neg (by unfold z7;rw[dif_pos hi,hh,c];decide),hs,if_neg,if_neg (by rw[a];decide),if_neg (by rw[c];decide)]
  rw[ByteArray.toList_eq];intro h5;have:p.data.toList=[]:=by simpa using h5
  rw[this] at hl;simp at hl;omega
theorem zdI{s:ByteArray}{i:Nat}{f:List UInt8}(hf:f∈zd)(h:ByAt s i f)(he:∀hl:i+f.length<s.size,isBlank (s[i+f.length].toNat:Int)=false/\(s[i+f.length].toNat:Int)≠35)(hz:i+f.length<=s.size):skipTo s i=i+f.length:=by
 have g:=fun r b (hr:f[r]? =some b)=>h.get hr;refine(wI (k:=i+f.length) ?_ hz (fun hl=>⟨(he hl).1,fun e=>(he hl).2 (by rw[e];rfl)⟩) _ (Nat.le_refl _)).2
 simp only[zd,List.mem_cons,List.not_mem_nil,or_false] at hf;rcases hf with rfl|rfl|rfl|rfl|rfl
 ·obtain⟨h0,e0⟩:=g 0 32 rfl
  exact .blank h0 (by rw[show s[i]'h0=32 from e0];decide) (.here _)
 ·obtain⟨h0,e0⟩:=g 0 10 rfl
  exact .blank h0 (by rw[show s[i]'h0=10 from e0];decide) (.here _)
 ·obtain⟨h0,e0⟩:=g 0 9 rfl
  obtain⟨h1,e1⟩:=g 1 13 rfl
  exact .blank h0 (by rw[show s[i]'h0=9 from e0];decide) (.blank h1 (by rw[e1];decide) (.here _))
 ·obtain⟨h0,e0⟩:=g 0 32 rfl
  obtain⟨h1,e1⟩:=g 1 35 rfl
  obtain⟨h2,e2⟩:=g 2 59 rfl
  obtain⟨h3,e3⟩:=g 3 32 rfl
  obtain⟨h4,e4⟩:=g 4 125 rfl
  obtain⟨h5,e5⟩:=g 5 10 rfl
  refine .blank h0 (by rw[show s[i]'h0=32 from e0];decide) (.remark (j:=i+5) h1 (by rw[e1];rfl) ⟨by omega,by omega,fun j hj a b=>?_,fun hl=>by rw[e5];decide⟩ (.blank h5 (by rw[e5];decide) (.here _)))
  obtain rfl|rfl|rfl|rfl:j=i+1\/j=i+2\/j=i+3\/j=i+4:=by omega
  ·rw[e1];decide
  ·rw[e2];decide
  ·rw[e3];decide
  ·rw[e4];decide
 ·obtain⟨h0,e0⟩:=g 0 32 rfl
  obtain⟨h1,e1⟩:=g 1 32 rfl
  exact .blank h0 (by rw[show s[i]'h0=32 from e0];decide) (.blank h1 (by rw[e1];decide) (.here _))
theorem item_code(p:ByteArray)(i:Nat):(zX p i).code=0/\(zX p i).text=p/\(zX p i).pos=i:=by
 unfold zX;split
 ·exact⟨rfl,rfl,rfl⟩
 ·split<;>exact⟨rfl,rfl,rfl⟩
theorem zgh{s:ByteArray}{i:Nat}{f:List UInt8}{m:List UInt8}(hf:f∈zd)(h:ByAt s i (f++m)):EndAt s i:=by
 simp only[zd,List.mem_cons,List.not_mem_nil,or_false] at hf;rcases hf with rfl|rfl|rfl|rfl|rfl;all_goals exact .inr ⟨_,h 0 _ rfl,by decide⟩
theorem cut_its{s:ByteArray}:∀(l:List Pc) (i n:Nat),ByAt s i (bytesOf l)->i+szOf l=s.size->(∀x∈l,x.1∈zd/\Good x.2)->s.size-i<n->cutF s n (skipTo s i)=its i l
 |[],i,n,h,hz,hg,hn=>by
  have hz':i=s.size:=by simpa [szOf,bytesOf] using hz
  have:skipTo s i=i:=(wI (.here i) (by omega) (fun hl=>by omega) _ (Nat.le_refl _)).2
  rw[this];cases n with
  |zero=>rfl
  |succ n=>simp only[cutF,its];rw[if_neg (by omega)]
 |x::l,i,n,h,hz,hg,hn=>by
  obtain⟨f,p⟩:=x
  obtain⟨hf,hp⟩:=hg _ (List.mem_cons_self ..)
  simp only at hf hp
  have hl:p.data.toList.length=p.size:=Array.length_toList;rw[zq] at hz;simp only[bytesOf,List.append_assoc] at h hz;have hp1:=h.right.left;have hr1:=h.right.right;rw[hl] at hr1;have hend:EndAt s (i+f.length+p.size):=by
   cases l with
   |nil=>exact .inl (by simp[szOf,bytesOf] at hz;omega)
   |cons y l=>
    have:=(hg y (by simp)).1
    simp only[bytesOf,List.append_assoc] at hr1;exact zgh this hr1
  obtain⟨e1,e2,hi,e3⟩:=item_at hp hp1 hend (by omega)
  rw[zdI hf h.left (fun _=>e3) (by omega)]
  cases n with
  |zero=>omega
  |succ n=>
   obtain⟨c1,c2,_⟩:=item_code p (i+f.length)
   simp only[cutF,its];rw[if_pos hi,e1,if_pos c1,c2]
   congr 1;exact cut_its l _ n hr1 (by omega) (fun y hy=>hg y (List.mem_cons_of_mem _ hy)) (by omega)
def textOf(l:List Pc):ByteArray:=⟨(bytesOf l).toArray⟩
theorem j6(l:List Pc):(textOf l).size=szOf l:=by show(bytesOf l).toArray.size=_;simp[szOf]
theorem zdO(l:List Pc)(hg:∀x∈l,x.1∈zd/\Good x.2):pieces (textOf l)=its 0 l:=
 cut_its l 0 _ (fun r b hr=>by simpa [textOf] using hr) (by rw[j6];omega) hg (by omega)
theorem its_code:∀(l:List Pc) (i:Nat),∀x∈its i l,x.code=0
 |[],i,x,h=>by cases h
 |y::l,i,x,h=>by
  rcases List.mem_cons.1 h with rfl|h
  ·exact(item_code _ _).1
  ·exact its_code l _ x h
theorem good_its(l:List Pc)(i:Nat):zr (its i l)=its i l:=by
 unfold zr;rw[List.filter_eq_self];intro x hx;simp[its_code l i x hx]
theorem bad_its(l:List Pc)(i:Nat):badOf (its i l)=(0,0):=by
 unfold badOf;have h:=its_code l i;generalize its i l=m at h;induction m with
 |nil=>rfl
 |cons x m ih=>
  rw[List.foldl_cons,if_pos (h x (by simp))]
  exact ih fun y hy=>h y (by simp[hy])
def yu{α:Type}(p:α->Bool):List α->Option Nat
 |[]=>none
 |x::l=>match yu p l with
  |some i=>some (i+1)
  |none=>if p x then some 0 else none
theorem xG{α:Type}{p:α->Bool}:∀{l:List α},yu p l=none->∀(j:Nat) (x:α),l[j]? =some x->p x=false
 |[],_,j,x,h=>by simp at h
 |y::l,h,j,x,hx=>by
  unfold yu at h;cases hl:yu p l with
  |some k=>rw[hl] at h;simp at h
  |none=>
   rw[hl] at h;simp at h;cases j with
   |zero=>simp at hx;subst hx;exact h
   |succ j=>exact xG hl j x (by simpa using hx)
theorem yx{α:Type}{p:α->Bool}:∀{l:List α} {i:Nat},yu p l=some i->(∃x,l[i]? =some x/\p x=true)/\∀(j:Nat) (x:α),i<j->l[j]? =some x->p x=false
 |[],i,h=>by simp[yu] at h
 |x::l,i,h=>by
  unfold yu at h;cases hl:yu p l with
  |some k=>
   rw[hl] at h;simp at h;subst h;obtain⟨⟨y,h1,h2⟩,h3⟩:=yx hl
   refine⟨⟨y,by simpa using h1,h2⟩,fun j z hj hz=>?_⟩
   cases j with
   |zero=>omega
   |succ j=>exact h3 j z (by omega) (by simpa using hz)
  |none=>
   rw[hl] at h;simp at h;obtain⟨hp,rfl⟩:=h
   have hn:=xG hl;refine⟨⟨x,rfl,hp⟩,fun j z hj hz=>?_⟩;cases j with
   |zero=>omega
   |succ j=>exact hn j z (by simpa using hz)
theorem lastIx_of{α:Type}{p:α->Bool}{l:List α}{i:Nat}{x:α}(h1:l[i]? =some x)(h2:p x=true)(h3:∀(j:Nat) (y:α),i<j->l[j]? =some y->p y=false):yu p l=some i:=by
 cases h:yu p l with
 |none=>rw[xG h i x h1] at h2;cases h2
 |some k=>
  obtain⟨⟨y,k1,k2⟩,k3⟩:=yx h
  rcases Nat.lt_trichotomy i k with h'|h'|h'
  ·rw[h3 k y h' k1] at k2;cases k2
  ·rw[h']
  ·rw[k3 i x h' h1] at h2;cases h2
theorem lastIx_of_none{α:Type}{p:α->Bool}{l:List α}(h:∀(j:Nat) (y:α),l[j]? =some y->p y=false):yu p l=none:=by
 cases hl:yu p l with
 |none=>rfl
 |some k=>
  obtain⟨⟨y,k1,k2⟩,_⟩:=yx hl
  rw[h k y k1] at k2;cases k2
theorem lastIx_lt{α:Type}{p:α->Bool}{l:List α}{i:Nat}(h:yu p l=some i):i<l.length:=by
 obtain⟨⟨x,h1,_⟩,_⟩:=yx h
 exact(List.getElem?_eq_some_iff.1 h1).1
def ze(k:Int):Bool:=decide (10<=k)&&decide (k<=15)
def zx(k:Int):Bool:=decide (2<=k)&&decide (k<=8)
def okAt(s:ByteArray)(j:Nat):Bool:=if h:j<s.size then isLetter (s[j]).toNat || (decide (j≠0)&&isDigit (s[j]).toNat) else true
def nameableB(s:ByteArray):Bool:=(List.range s.size).all (okAt s)&&decide (0<s.size)&&decide (s.size<=16)&&!zi s
def fieldsB(n:Nd):Bool:=
 if n.kind=0\/n.kind=2\/n.kind=3\/n.kind=4\/n.kind=12\/n.kind=13 then nameableB n.name&&decide (n.num=0)&&decide (n.op=0)
 else if n.kind=1 then nameableB n.name&&decide (0<=n.num)&&decide (n.op=0)
 else if n.kind=10 then n.name.toList.isEmpty&&decide (0<=n.num)&&decide (n.op=0)
 else if n.kind=11 then n.name.toList.isEmpty&&(decide (n.num=0) || decide (n.num=1))&&decide (n.op=0)
 else if n.kind=14 then n.name.toList.isEmpty&&decide (n.num=0)&&(decide (n.op=1) || decide (n.op=2))
 else if n.kind=15 then n.name.toList.isEmpty&&decide (n.num=0)&&(decide (3<=n.op)&&decide (n.op<=15))
 else if n.kind=5\/n.kind=6\/n.kind=7\/n.kind=8\/n.kind=9 then n.name.toList.isEmpty&&decide (n.num=0)&&decide (n.op=0)
 else false
structure Hold where
 kind:Int
 depth:Int
 wants:List Int
 blocks:Int
def zC(k:Int):List Int:=
 if k=2\/k=5\/k=13\/k=14 then [0] else if k=3\/k=15 then [0,0] else if k=7\/k=8 then [0,1] else []
def xf(o:List Hold):Option Nat:=yu (fun h=>!h.wants.isEmpty) o
def heldIx(o:List Hold)(d:Int):Option Nat:=yu (fun h=>decide (h.depth=d)) o
def cutN{α:Type}(p:α->Bool)(l:List α):Nat:=match yu p l with
 |some i=>i+1
 |none=>0
theorem zh4{α:Type}(p:α->Bool)(l:List α):cutN p l<=l.length:=by
 unfold cutN;cases h:yu p l with
 |none=>exact Nat.zero_le _
 |some i=>exact lastIx_lt h
theorem wS{α:Type}{p:α->Bool}{l:List α}{k:Nat}(h1:k=0\/∃x,l[k-1]? =some x/\p x=true)(h2:∀(j:Nat) (y:α),k<=j->l[j]? =some y->p y=false):cutN p l=k:=by
 unfold cutN;rcases h1 with rfl|⟨x,hx,hp⟩
 ·rw[lastIx_of_none fun j y hy=>h2 j y (Nat.zero_le _) hy]
 ·by_cases hk:k=0
  ·subst hk;rw[h2 0 x (Nat.le_refl _) hx] at hp;cases hp
  ·rw[lastIx_of hx hp fun j y hj hy=>h2 j y (by omega) hy]
   show k-1+1=k;omega
theorem cutN_last{α:Type}(p:α->Bool)(l:List α):cutN p l=0\/∃x,l[cutN p l-1]? =some x/\p x=true:=by
 unfold cutN;cases h:yu p l with
 |none=>exact .inl rfl
 |some i=>obtain⟨⟨x,h1,h2⟩,_⟩:=yx h;exact .inr ⟨x,h1,h2⟩
def popF(d:Int)(o:List Hold):List Hold:=o.take (cutN (fun h=>decide (h.depth<d)) o)
def takeF(o:List Hold)(heads:Bool)(n:Nd):Option (List Hold):=
 match xf o with
 |some w=>match o[w]? with
  |some h=>match h.wants with
   |x::rest=>if n.depth≠h.depth+1\/(x=0/\ze n.kind=false)\/(x=1/\n.kind≠9) then none else some (o.set w {h with wants:=rest,blocks:=if x=1 then h.blocks+1 else h.blocks})
   |[]=>none
  |none=>none
 |none=>
  if n.kind=0\/n.kind=1 then (if n.depth≠1\/heads=false then none else some o)
  else if zx n.kind then
   if n.depth=1 then some o
   else match heldIx o (IntKind.wrap .i64 (n.depth-1)) with
    |some u=>match o[u]? with
     |some h=>if h.kind=9 then some o else none
     |none=>none
    |none=>none
  else if n.kind=9 then
   match heldIx o (IntKind.wrap .i64 (n.depth-1)) with
   |some u=>match o[u]? with
    |some h=>if h.kind=7/\h.blocks=1 then some (o.set u {h with blocks:=h.blocks+1}) else none
    |none=>none
   |none=>none
  else none
def xg(o:List Hold)(heads:Bool)(n:Nd):Option (List Hold×Bool):=
 if fieldsB n=false then none else
 match takeF o heads n with
 |none=>none
 |some o1=>some (popF n.depth o1++[⟨n.kind,n.depth,zC n.kind,0⟩],if n.kind=0\/n.kind=1 then heads else false)
def shapeG(o:List Hold)(heads:Bool)(i:Nat):List Nd->Int×Int
 |[]=>if (xf o).isSome then (33,i) else (0,0)
 |n::l=>match xg o heads n with
  |none=>(33,i)
  |some (o',h')=>if 24<n.depth then (31,i) else shapeG o' h' (i+1) l
def shapeF(l:List Nd):Int×Int:=if 300<l.length then (32,300) else shapeG [] true 0 l
structure Opn where
 depth:Int
 kind:Int
 has:Int
def rwants(k:Int):Int:=if k=2\/k=5\/k=13\/k=14 then 1 else if k=3\/k=7\/k=8\/k=15 then 2 else 0
def rholds(o:Opn)(k:Int):Bool:=
 if o.kind=9 then zx k
 else if o.kind=7 then (decide (o.has=0)&&ze k) || ((decide (o.has=1) || decide (o.has=2))&&decide (k=9))
 else if o.kind=8 then (decide (o.has=0)&&ze k) || (decide (o.has=1)&&decide (k=9))
 else decide (o.has<rwants o.kind)&&ze k
def lacks(t:Opn):Bool:=decide (t.has<rwants t.kind)
def rcut(d:Int)(st:List Opn):Nat:=cutN (fun t=>decide (t.depth<d)) st
def yA(st:List Opn)(begun:Bool)(n:Nd):Option (List Opn×Bool):=
 if (st.drop (rcut n.depth st)).any lacks=true then none
 else if n.depth≠(rcut n.depth st:Int)+1\/fieldsB n=false then none
 else match rcut n.depth st with
  |0=>
   if ((n.kind=0\/n.kind=1)/\begun=true)\/(¬(n.kind=0\/n.kind=1)/\zx n.kind=false) then none
   else some ([],begun || !(decide (n.kind=0\/n.kind=1)))
  |i+1=>match st[i]? with
   |none=>none
   |some t=>if rholds t n.kind=false then none else some (st.take i++[{t with has:=t.has+1}],begun)
def yT(st:List Opn)(n:Nd):List Opn:=if 0<rwants n.kind\/n.kind=9 then st++[⟨n.depth,n.kind,0⟩] else st
def rshapeG(st:List Opn)(begun:Bool)(i:Nat):List Nd->Int×Int
 |[]=>if st.any lacks=true then (33,i) else (0,0)
 |n::l=>match yA st begun n with
  |none=>(33,i)
  |some (st',b')=>if 24<n.depth then (31,i) else rshapeG (yT st' n) b' (i+1) l
def rshapeF(l:List Nd):Int×Int:=if 300<l.length then (32,300) else rshapeG [] false 0 l
def opName(o:Int):ByteArray:=⟨(([[],[45],[33],[43],[45],[42],[47],[37],[60],[60,61],[62],[62,61],[61,61],[33,61],[38,38],[124,124]]:List (List UInt8)).getD o.toNat []).toArray⟩
def sLp:ByteArray:=⟨#[40]⟩
def sRp:ByteArray:=⟨#[41]⟩
def sLb:ByteArray:=⟨#[91]⟩
def sRb:ByteArray:=⟨#[93]⟩
def sLc:ByteArray:=⟨#[123]⟩
def sRc:ByteArray:=⟨#[125]⟩
def sSm:ByteArray:=⟨#[59]⟩
def sAs:ByteArray:=⟨#[58,61]⟩
def kVar:ByteArray:=⟨#[118,97,114]⟩
def kArr:ByteArray:=⟨#[97,114,114,97,121]⟩
def kInp:ByteArray:=⟨#[105,110,112,117,116]⟩
def kAst:ByteArray:=⟨#[97,115,115,101,114,116]⟩
def kSkp:ByteArray:=⟨#[115,107,105,112]⟩
def kIf:ByteArray:=⟨#[105,102]⟩
def kEls:ByteArray:=⟨#[101,108,115,101]⟩
def kWhl:ByteArray:=⟨#[119,104,105,108,101]⟩
def kTru:ByteArray:=⟨#[116,114,117,101]⟩
def kFls:ByteArray:=⟨#[102,97,108,115,101]⟩
def vP(x:Int):Prop:=∃p:ByteArray,p=⟨(Lib.itoa x).toArray⟩/\isDigit (zK p)=true/\numOf p=(x,0)/\Good p
def digs(x:Int):ByteArray:=⟨(Lib.itoa x).toArray⟩
def rowOf(o:Int):Nat:=if o=15 then 0 else if o=14 then 1 else if o=3\/o=4 then 3 else if o=5\/o=6\/o=7 then 4 else 2
def qa(r:Nat):Nat:=if r=2 then 3 else r
inductive Tg
 |e (k:Nat)
 |s
 |ss
 |b
 |p
inductive W:Tg->Nat->List Tr->List Pc->List Tr->Prop
 |wrap {k i t t' l f g} (hf:f∈zd) (hg:g∈zd) (h:W (.e 0) (i+f.length+1) [t] l [t']):W (.e k) i [t] ((f,sLp)::(l++[(g,sRp)])) [t']
 |num {k i f d a x} (hf:f∈zd) (h:vP x):W (.e k) i [.mk ⟨d,10,za,x,0,a⟩ []] [(f,digs x)] [leafT 10 za x 0 ((i+f.length:Nat):Int) []]
 |tru {k i f d a} (hf:f∈zd):W (.e k) i [.mk ⟨d,11,za,1,0,a⟩ []] [(f,kTru)] [leafT 11 za 1 0 ((i+f.length:Nat):Int) []]
 |fls {k i f d a} (hf:f∈zd):W (.e k) i [.mk ⟨d,11,za,0,0,a⟩ []] [(f,kFls)] [leafT 11 za 0 0 ((i+f.length:Nat):Int) []]
 |read {k i f d a s} (hf:f∈zd) (h:nameableB s=true):W (.e k) i [.mk ⟨d,12,s,0,0,a⟩ []] [(f,s)] [leafT 12 s 0 0 ((i+f.length:Nat):Int) []]
 |load {k i f g h d a s e e' l} (hf:f∈zd) (hg:g∈zd) (hh:h∈zd) (hs:nameableB s=true) (he:W (.e 0) (i+f.length+s.size+g.length+1) [e] l [e']):
  W (.e k) i [.mk ⟨d,13,s,0,0,a⟩ [e]] ((f,s)::(g,sLb)::(l++[(h,sRb)])) [leafT 13 s 0 0 ((i+f.length:Nat):Int) [e']]
 |un {k i f d a o e e' l} (hf:f∈zd) (ho:o=1\/o=2) (he:W (.e 5) (i+f.length+1) [e] l [e']):
  W (.e k) i [.mk ⟨d,14,za,0,o,a⟩ [e]] ((f,opName o)::l) [leafT 14 za 0 o ((i+f.length:Nat):Int) [e']]
 |bin {k i f d a o x x' y y' l m} (hf:f∈zd) (ho:3<=o/\o<=15) (hk:k<=rowOf o) (hx:W (.e (qa (rowOf o))) i [x] l [x']) (hy:W (.e (rowOf o+1)) (i+szOf l+f.length+(opName o).size) [y] m [y']):
  W (.e k) i [.mk ⟨d,15,za,0,o,a⟩ [x,y]] (l++(f,opName o)::m) [leafT 15 za 0 o ((i+szOf l+f.length:Nat):Int) [x',y']]
 |assign {i f g h d a s e e' l} (hf:f∈zd) (hg:g∈zd) (hh:h∈zd) (hs:nameableB s=true) (he:W (.e 0) (i+f.length+s.size+g.length+2) [e] l [e']):
  W .s i [.mk ⟨d,2,s,0,0,a⟩ [e]] ((f,s)::(g,sAs)::(l++[(h,sSm)])) [leafT 2 s 0 0 ((i+f.length:Nat):Int) [e']]
 |store {i f g h h2 h3 d a s x x' y y' l m} (hf:f∈zd) (hg:g∈zd) (hh:h∈zd) (hh2:h2∈zd) (hh3:h3∈zd) (hs:nameableB s=true) (hx:W (.e 0) (i+f.length+s.size+g.length+1) [x] l [x'])
  (hy:W (.e 0) (i+f.length+s.size+g.length+1+szOf l+h.length+1+h2.length+2) [y] m [y']):
  W .s i [.mk ⟨d,3,s,0,0,a⟩ [x,y]] ((f,s)::(g,sLb)::(l++(h,sRb)::(h2,sAs)::(m++[(h3,sSm)]))) [leafT 3 s 0 0 ((i+f.length:Nat):Int) [x',y']]
 |input {i f g h d a s} (hf:f∈zd) (hg:g∈zd) (hh:h∈zd) (hs:nameableB s=true):
  W .s i [.mk ⟨d,4,s,0,0,a⟩ []] [(f,kInp),(g,s),(h,sSm)] [leafT 4 s 0 0 ((i+f.length:Nat):Int) []]
 |assert {i f h d a e e' l} (hf:f∈zd) (hh:h∈zd) (he:W (.e 0) (i+f.length+6) [e] l [e']):
  W .s i [.mk ⟨d,5,za,0,0,a⟩ [e]] ((f,kAst)::(l++[(h,sSm)])) [leafT 5 za 0 0 ((i+f.length:Nat):Int) [e']]
 |skip {i f h d a} (hf:f∈zd) (hh:h∈zd):W .s i [.mk ⟨d,6,za,0,0,a⟩ []] [(f,kSkp),(h,sSm)] [leafT 6 za 0 0 ((i+f.length:Nat):Int) []]
 |if1 {i f d a e e' x x' l m} (hf:f∈zd) (he:W (.e 0) (i+f.length+2) [e] l [e']) (hx:W .b (i+f.length+2+szOf l) [x] m [x']):
  W .s i [.mk ⟨d,7,za,0,0,a⟩ [e,x]] ((f,kIf)::(l++m)) [leafT 7 za 0 0 ((i+f.length:Nat):Int) [e',x']]
 |if2 {i f g d a e e' x x' y y' l m n} (hf:f∈zd) (hg:g∈zd) (he:W (.e 0) (i+f.length+2) [e] l [e']) (hx:W .b (i+f.length+2+szOf l) [x] m [x']) (hy:W .b (i+f.length+2+szOf l+szOf m+g.length+4) [y] n [y']):
  W .s i [.mk ⟨d,7,za,0,0,a⟩ [e,x,y]] ((f,kIf)::(l++(m++(g,kEls)::n))) [leafT 7 za 0 0 ((i+f.length:Nat):Int) [e',x',y']]
 |while {i f d a e e' x x' l m} (hf:f∈zd) (he:W (.e 0) (i+f.length+5) [e] l [e']) (hx:W .b (i+f.length+5+szOf l) [x] m [x']):
  W .s i [.mk ⟨d,8,za,0,0,a⟩ [e,x]] ((f,kWhl)::(l++m)) [leafT 8 za 0 0 ((i+f.length:Nat):Int) [e',x']]
 |nil {i}:W .ss i [] [] []
 |cons {i t t' l ts ts' m} (h:W .s i [t] l [t']) (h2:W .ss (i+szOf l) ts m ts'):W .ss i (t::ts) (l++m) (t'::ts')
 |blk {i f g d a ts ts' l} (hf:f∈zd) (hg:g∈zd) (h:W .ss (i+f.length+1) ts l ts'):
  W .b i [.mk ⟨d,9,za,0,0,a⟩ ts] ((f,sLc)::(l++[(g,sRc)])) [leafT 9 za 0 0 ((i+f.length:Nat):Int) ts']
 |sts {i ts l ts'} (h:W .ss i ts l ts'):W .p i ts l ts'
 |var {i f g h d a s ts ts' l} (hf:f∈zd) (hg:g∈zd) (hh:h∈zd) (hs:nameableB s=true) (h2:W .p (i+f.length+3+g.length+s.size+h.length+1) ts l ts'):
  W .p i (.mk ⟨d,0,s,0,0,a⟩ []::ts) ((f,kVar)::(g,s)::(h,sSm)::l) (leafT 0 s 0 0 ((i+f.length:Nat):Int) []::ts')
 |arr {i f g h h2 h3 h4 d a s x ts ts' l} (hf:f∈zd) (hg:g∈zd) (hh:h∈zd) (hh2:h2∈zd) (hh3:h3∈zd) (hh4:h4∈zd) (hs:nameableB s=true) (hn:vP x)
  (h5:W .p (i+f.length+5+g.length+s.size+h.length+1+h2.length+(digs x).size+h3.length+1+h4.length+1) ts l ts'):
  W .p i (.mk ⟨d,1,s,x,0,a⟩ []::ts) ((f,kArr)::(g,s)::(h,sLb)::(h2,digs x)::(h3,sRb)::(h4,sSm)::l) (leafT 1 s x 0 ((i+f.length:Nat):Int) []::ts')
def cmB(p s:ByteArray):Bool:=(isLetter (zK p) || !isDigit (zK p))&&(p.toList==s.toList)
def nmB(p:ByteArray):Bool:=isLetter (zK p)&&!zi p
def oaB(k:Nat)(p:ByteArray):Option Int:=if isLetter (zK p) || isDigit (zK p) then none else (opsOf k).lookup p.toList
def It(C:Ctx)(j:Nat)(p:ByteArray)(q:Nat):Prop:=C.l[j]? =some (zX p q)
section
variable {C:Ctx} {j q:Nat} {p:ByteArray}
theorem It.cm(h:It C j p q)(s:ByteArray):zb C.l j s=cmB p s:=by
 unfold zb cmB;rw[h];show(decide ((zX p q).kind≠1)&&((zX p q).text.toList==s.toList))=_
 rw[(item_code p q).2.1];unfold zX;cases h1:isLetter (zK p)<;>cases h2:isDigit (zK p)<;>simp[xn]<;>rfl
theorem It.nm(h:It C j p q):zO C.l j=nmB p:=by
 unfold zO nmB;rw[h];show(decide ((zX p q).kind=0)&&!zi (zX p q).text)=_
 rw[(item_code p q).2.1];unfold zX;cases h1:isLetter (zK p)<;>cases h2:isDigit (zK p)<;>simp
theorem It.oa(h:It C j p q)(k:Nat):opAt k C.l j=oaB k p:=by
 unfold opAt oaB;rw[h];show(if (zX p q).kind=2 then (opsOf k).lookup (zX p q).text.toList else none)=_
 rw[(item_code p q).2.1];unfold zX;cases h1:isLetter (zK p)<;>cases h2:isDigit (zK p)<;>simp
theorem It.pl(h:It C j p q):placeOf C.l C.e j=q:=by
 unfold placeOf;rw[h];exact(item_code p q).2.2
theorem It.tx(h:It C j p q):textAt C.l j=p:=by
 unfold textAt;rw[h];exact(item_code p q).2.1
end
theorem vy{p:ByteArray}(h:isDigit (zK p)=true)(s:ByteArray):cmB p s=false:=by
 unfold cmB;rw[xn h,h];rfl
theorem zhF{p s:ByteArray}(h:(p.toList==s.toList)=true):p=s:=by
 have h:=eq_of_beq h;rw[ByteArray.toList_eq,ByteArray.toList_eq] at h;exact ByteArray.ext (Array.toList_inj.1 h)
theorem yJ{s:ByteArray}(h:nameableB s=true):isLetter (zK s)=true/\zi s=false/\Good s:=by
 unfold nameableB at h;simp only[Bool.and_eq_true,decide_eq_true_eq,Bool.not_eq_true',List.all_eq_true,List.mem_range] at h;obtain⟨⟨⟨h1,h2⟩,h3⟩,h4⟩:=h
 have hl:s.data.toList.length=s.size:=Array.length_toList;have hby:∀(r:Nat) b,s.data.toList[r]? =some b->∃hr:r<s.size,s[r]=b:=fun r b hb=>zaH hb;have hh:isLetter (zK s)=true:=by
  have h0:=h1 0 h2;unfold okAt at h0;rw[dif_pos h2] at h0;have e:(s[0].toNat:Int)=zK s:=by
   obtain⟨a,b⟩:=kn (s:=s) (p:=s) (i:=0) (fun r b hb=>by rw[Nat.zero_add];exact hb) h2
   exact b
  rw[e] at h0;simpa using h0
 refine⟨hh,h4, .word hh (fun b hb=>?_) h3 h2⟩;obtain⟨r,hr⟩:=List.getElem?_of_mem hb
 obtain⟨hz,rfl⟩:=hby r b hr
 have h0:=h1 r hz;unfold okAt at h0;rw[dif_pos hz] at h0;unfold yn;simp only[Bool.or_eq_true,Bool.and_eq_true] at h0⊢;exact h0.imp id fun h=>h.2
theorem yo{p:ByteArray}(h:nameableB p=true){s:ByteArray}(hs:(zi s || !isLetter (zK s))=true):cmB p s=false:=by
 obtain⟨h1,h2,_⟩:=yJ h
 cases hc:cmB p s with
 |false=>rfl
 |true=>
  unfold cmB at hc;rw[Bool.and_eq_true] at hc;have:=zhF hc.2
  subst this;rw[h1,h2] at hs;cases hs
theorem nm_name{p:ByteArray}(h:nameableB p=true):nmB p=true:=by
 obtain⟨h1,h2,_⟩:=yJ h
 unfold nmB;rw[h1,h2];rfl
theorem ziK{p:ByteArray}(h:isDigit (zK p)=true):nmB p=false:=by
 unfold nmB;rw[xn h];rfl
def Here(C:Ctx)(j i:Nat)(l:List Pc):Prop:=∀(r:Nat) x,(its i l)[r]? =some x->C.l[j+r]? =some x
section
variable {C:Ctx} {j i:Nat} {f:List UInt8} {p:ByteArray} {l m:List Pc}
theorem Here.hd(h:Here C j i ((f,p)::l)):It C j p (i+f.length):=h 0 _ rfl
theorem Here.tl(h:Here C j i ((f,p)::l)):Here C (j+1) (i+f.length+p.size) l:=fun r x hr=>by
 have:=h (r+1) x (by simpa [its] using hr)
 rw[show j+1+r=j+(r+1) from by omega]
 exact this
theorem Here.lt(h:Here C j i (l++m)):Here C j i l:=fun r x hr=>h r x (by rw[kC,List.getElem?_append_left (List.getElem?_eq_some_iff.1 hr).1];exact hr)
theorem Here.rt(h:Here C j i (l++m)):Here C (j+l.length) (i+szOf l) m:=fun r x hr=>by
 have:=h (l.length+r) x (by rw[kC,List.getElem?_append_right (by rw[vK];omega),vK];simpa using hr)
 rw[Nat.add_assoc];exact this
end
def To(C:Ctx)(nt:NT)(j:Nat)(r:Res (List Tr)):Prop:=∃f,rd C f nt j=some r
section
variable {C:Ctx}
theorem To.un{j j':Nat}{ts:List Tr}(h:To C .unary j (.ok ts j')):To C (.row 5) j (.ok ts j'):=by
 obtain⟨f,h⟩:=h
 exact⟨f+1,by rw[rd];exact h⟩
theorem To.row{k j j':Nat}{t:Tr}{r:Res (List Tr)}(hk:k<5)(h:To C (.row (k+1)) j (.ok [t] j'))(h2:To C (.rest k t) j' r):To C (.row k) j r:=by
 obtain⟨f,h⟩:=h
 obtain⟨g,h2⟩:=h2
 refine⟨max f g+1,?_⟩;rw[rd,if_neg (by omega),yX C (Nat.le_max_left f g) _ _ _ h]
 exact yX C (Nat.le_max_right f g) _ _ _ h2
theorem To.done{k j:Nat}{t:Tr}(h:opAt k C.l j=none):To C (.rest k t) j (.ok [t] j):=⟨1,by rw[rd,h]⟩
theorem To.op{k j j':Nat}{t u:Tr}{o:Int}{r:Res (List Tr)}(h:opAt k C.l j=some o)(h1:To C (.row (k+1)) (j+1) (.ok [u] j'))(h2:if k=2 then r= .ok [leafT 15 za 0 o (placeOf C.l C.e j) [t,u]] j' else To C (.rest k (leafT 15 za 0 o (placeOf C.l C.e j) [t,u])) j' r):To C (.rest k t) j r:=by
 obtain⟨f,h1⟩:=h1
 by_cases hk:k=2
 ·rw[if_pos hk] at h2;refine⟨f+1,?_⟩;rw[rd,h];simp only[];rw[h1];simp only[andThen];rw[if_pos hk,h2]
 ·rw[if_neg hk] at h2;obtain⟨g,h2⟩:=h2
  refine⟨max f g+1,?_⟩;rw[rd,h];simp only[];rw[yX C (Nat.le_max_left f g) _ _ _ h1];simp only[andThen];rw[if_neg hk];exact yX C (Nat.le_max_right f g) _ _ _ h2
def Fw(C:Ctx)(k j:Nat):Prop:=(∀m,k<m->m<=4->opAt m C.l j=none)/\(k=2->opAt 2 C.l j=none)/\zb C.l j sLb=false
theorem zat{k m j j':Nat}{t:Tr}(hk:k<=4)(hf:Fw C k j'):∀d,m=k+d->m<=5->(m=5->To C (.row 5) j (.ok [t] j'))->(m<=4->∀r,To C (.rest m t) j' r->To C (.row m) j r)->∀r,To C (.rest k t) j' r->To C (.row k) j r:=by
 intro d;induction d generalizing m with
 |zero=>
  intro hm h5 ha hb r hr;obtain rfl:m=k:=by omega
  exact hb (by omega) r hr
 |succ d ih=>
  intro hm h5 ha hb;refine ih (m:=k+d) rfl (by omega) (fun h=>by omega) fun h4 r hr=>?_
  have hdone:To C (.row (k+d+1)) j (.ok [t] j'):=by
   rw[show k+d+1=m from by omega]
   by_cases hm5:m=5
   ·subst hm5;exact ha rfl
   ·exact hb (by omega) _ (To.done (hf.1 m (by omega) (by omega)))
  exact To.row (by omega) hdone hr
def RdE(C:Ctx)(k j j':Nat)(t:Tr):Prop:=(k=5->To C .unary j (.ok [t] j'))/\(k<=4->∀r,To C (.rest k t) j' r->To C (.row k) j r)
theorem vi{k j j':Nat}{t:Tr}(h:To C .unary j (.ok [t] j'))(hk:k<=5)(hf:Fw C k j'):RdE C k j j' t:=
 ⟨fun _=>h,fun h4=>zat (m:=5) h4 hf (5-k) (by omega) (Nat.le_refl _) (fun _=>h.un) (fun h=>by omega)⟩
theorem qN{k j j':Nat}{t:Tr}{p:ByteArray}{q:Nat}(hi:It C j p q)(h1:cmB p ⟨#[45]⟩=false)(h2:cmB p ⟨#[33]⟩=false)(h:To C .atom j (.ok [t] j'))(hk:k<=5)(hf:Fw C k j'):RdE C k j j' t:=by
 refine vi ?_ hk hf;obtain⟨f,h⟩:=h
 refine⟨f+1,?_⟩;rw[rd,if_neg (by rw[hi.cm,h1];decide),if_neg (by rw[hi.cm,h2];decide)]
 exact h
theorem RdE.ok{k j j':Nat}{t:Tr}(h:RdE C k j j' t)(hk:k<=5)(hf:opAt k C.l j'=none):To C (.row k) j (.ok [t] j'):=by
 by_cases h5:k=5
 ·subst h5;exact(h.1 rfl).un
 ·exact h.2 (by omega) _ (To.done hf)
end
def clB(p:ByteArray):Bool:=(List.range 5).all (fun m=>(oaB m p).isNone)&&!cmB p sLb
def opB(o:Int):Bool:=(List.range 5).all (fun m=>decide (m=rowOf o) || (oaB m (opName o)).isNone)&&!cmB (opName o) sLb&&decide (oaB (rowOf o) (opName o)=some o)
theorem zfM{o:Int}(h:3<=o/\o<=15):opB o=true:=by
 have:o=3\/o=4\/o=5\/o=6\/o=7\/o=8\/o=9\/o=10\/o=11\/o=12\/o=13\/o=14\/o=15:=by omega
 rcases this with rfl|rfl|rfl|rfl|rfl|rfl|rfl|rfl|rfl|rfl|rfl|rfl|rfl<;>decide+kernel
theorem row_le(o:Int):rowOf o<=4:=by
 unfold rowOf
 repeat' split
 all_goals omega
section
variable {C:Ctx}
theorem zgK{j q:Nat}{p:ByteArray}(h:It C j p q)(hc:clB p=true)(k:Nat):Fw C k j:=by
 unfold clB at hc;rw[Bool.and_eq_true,List.all_eq_true] at hc;have key:∀m,m<=4->opAt m C.l j=none:=fun m hm=>by
  rw[h.oa];simpa using hc.1 m (by rw[List.mem_range];omega)
 exact⟨fun m _ hm=>key m hm,fun _=>key 2 (by omega),by rw[h.cm];simpa using hc.2⟩
theorem zgJ{j q:Nat}{o:Int}(h:It C j (opName o) q)(ho:3<=o/\o<=15):Fw C (qa (rowOf o)) j/\opAt (rowOf o) C.l j=some o/\(∀m,m<=4->m≠rowOf o->opAt m C.l j=none):=by
 have hb:=zfM ho;unfold opB at hb;simp only[Bool.and_eq_true,List.all_eq_true,List.mem_range,Bool.or_eq_true,decide_eq_true_eq] at hb;obtain⟨⟨h1,h2⟩,h3⟩:=hb
 have key:∀m,m<=4->m≠rowOf o->opAt m C.l j=none:=fun m h4 hm=>by
  rw[h.oa];rcases h1 m (by omega) with h5|h5
  ·exact absurd h5 hm
  ·simpa using h5
 have hl:rowOf o<=qa (rowOf o):=by unfold qa;split<;>omega
 refine⟨⟨fun m hm h4=>key m h4 (by omega),fun h2=>?_,by rw[h.cm];simpa using h2⟩,by rw[h.oa];exact h3,key⟩
 unfold qa at h2
 split at h2<;>omega
theorem Fw.more{k m j:Nat}(h:Fw C k j)(hk:k<m):Fw C m j:=⟨fun n hn h4=>h.1 n (by omega) h4,fun e=>h.1 2 (by omega) (by omega),h.2.2⟩
theorem To.same{nt:NT}{j:Nat}{r r':Res (List Tr)}(h:To C nt j r)(h':To C nt j r'):r=r':=by
 obtain⟨f,h⟩:=h
 obtain⟨g,h'⟩:=h'
 exact zhw C h h'
theorem zgs{j q:Nat}(h:It C j kTru q):To C .atom j (.ok [leafT 11 za 1 0 q []] (j+1)):=⟨1,by
 rw[rd,if_pos (by rw[h.cm];kernel_rfl),h.pl]⟩
theorem zgv{j q:Nat}(h:It C j kFls q):To C .atom j (.ok [leafT 11 za 0 0 q []] (j+1)):=⟨1,by
 rw[rd,if_neg (by rw[h.cm];decide+kernel),if_pos (by rw[h.cm];kernel_rfl),h.pl]⟩
theorem zgt{j j1 q q1:Nat}{ts:List Tr}(h:It C j sLp q)(hr:To C (.row 0) (j+1) (.ok ts j1))(h1:It C j1 sRp q1):To C .atom j (.ok ts (j1+1)):=by
 obtain⟨f,hr⟩:=hr
 refine⟨f+1,?_⟩;rw[rd,if_neg (by rw[h.cm];decide+kernel),if_neg (by rw[h.cm];decide+kernel),if_pos (by rw[h.cm];kernel_rfl),hr]
 simp only[andThen,zp];rw[if_pos (by rw[h1.cm];kernel_rfl)]
theorem zer{j q:Nat}{s:ByteArray}(h:It C j s q)(hs:nameableB s=true)(hn:zb C.l (j+1) sLb=false):To C .atom j (.ok [leafT 12 s 0 0 q []] (j+1)):=⟨1,by
 rw[rd,if_neg (by rw[h.cm,yo hs (by kernel_rfl)];decide),if_neg (by rw[h.cm,yo hs (by kernel_rfl)];decide),if_neg (by rw[h.cm,yo hs (by kernel_rfl)];decide),if_pos (by rw[h.nm];exact nm_name hs),
  if_neg (by rw[show(⟨#[91]⟩:ByteArray)=sLb from rfl,hn];decide),h.pl,h.tx]⟩
theorem zes{j j1 q q1 q2:Nat}{s:ByteArray}{ts:List Tr}(h:It C j s q)(hs:nameableB s=true)(h1:It C (j+1) sLb q1)(hr:To C (.row 0) (j+2) (.ok ts j1))(h2:It C j1 sRb q2):To C .atom j (.ok [leafT 13 s 0 0 q ts] (j1+1)):=by
 obtain⟨f,hr⟩:=hr
 refine⟨f+1,?_⟩;rw[rd,if_neg (by rw[h.cm,yo hs (by kernel_rfl)];decide),if_neg (by rw[h.cm,yo hs (by kernel_rfl)];decide),if_neg (by rw[h.cm,yo hs (by kernel_rfl)];decide),if_pos (by rw[h.nm];exact nm_name hs),
  if_pos (by rw[h1.cm];kernel_rfl),hr,h.pl,h.tx]
 simp only[andThen,zp];rw[if_pos (by rw[h2.cm];kernel_rfl)]
theorem It.nb{j q:Nat}{p:ByteArray}(h:It C j p q)(hd:isDigit (zK p)=true):xK C.l j=true/\numAtT C.l j=(numOf p).1:=by
 unfold xK numAtT;rw[h];show decide ((zX p q).kind=1)=true/\(zX p q).num=_;unfold zX;rw[xn hd,hd];exact⟨rfl,rfl⟩
theorem zgu{j q:Nat}{x:Int}(h:It C j (digs x) q)(hx:vP x):To C .atom j (.ok [leafT 10 za x 0 q []] (j+1)):=⟨1,by
 obtain⟨p,rfl,hd,hv,_⟩:=hx
 have hd':isDigit (zK (digs x))=true:=hd;obtain⟨n1,n2⟩:=h.nb hd'
 have hv':numOf (digs x)=(x,0):=hv;rw[rd,if_neg (by rw[h.cm,vy hd'];decide),if_neg (by rw[h.cm,vy hd'];decide),if_neg (by rw[h.cm,vy hd'];decide),if_neg (by rw[h.nm,ziK hd'];decide)]
 simp only[ym];rw[if_pos n1,n2,hv',h.pl];rfl⟩
theorem ziw{j j1 q:Nat}{ts:List Tr}(h:It C j ⟨#[45]⟩ q)(hr:To C .unary (j+1) (.ok ts j1)):To C .unary j (.ok [leafT 14 za 0 1 q ts] j1):=by
 obtain⟨f,hr⟩:=hr
 refine⟨f+1,?_⟩;rw[rd,if_pos (by rw[h.cm];kernel_rfl),hr,h.pl]
 rfl
theorem ziv{j j1 q:Nat}{ts:List Tr}(h:It C j ⟨#[33]⟩ q)(hr:To C .unary (j+1) (.ok ts j1)):To C .unary j (.ok [leafT 14 za 0 2 q ts] j1):=by
 obtain⟨f,hr⟩:=hr
 refine⟨f+1,?_⟩;rw[rd,if_neg (by rw[h.cm];decide+kernel),if_pos (by rw[h.cm];kernel_rfl),hr,h.pl]
 rfl
def NoSt(C:Ctx)(j:Nat):Prop:=To C .stmt j (.ok [] j)/\zb C.l j kEls=false
def RdW(C:Ctx)(tg:Tg)(i:Nat)(l:List Pc)(ts:List Tr):Prop:=match tg with
 | .e k=>k<=5->∀j,Here C j i l->Fw C k (j+l.length)->∃t,ts=[t]/\RdE C k j (j+l.length) t
 | .s=>∀j,Here C j i l->zb C.l (j+l.length) kEls=false->To C .stmt j (.ok ts (j+l.length))
 | .ss=>∀j,Here C j i l->NoSt C (j+l.length)->To C .stmts j (.ok ts (j+l.length))
 | .b=>∀j,Here C j i l->To C .block j (.ok ts (j+l.length))
 | .p=>∀j,Here C j i l->C.l.length=j+l.length->To C .prog j (.ok ts (j+l.length))
theorem RdW.upto{k i j q:Nat}{l:List Pc}{ts:List Tr}{p:ByteArray}(h:RdW C (.e k) i l ts)(hk:k<=5)(hh:Here C j i l)(hi:It C (j+l.length) p q)(hc:clB p=true):To C (.row k) j (.ok ts (j+l.length)):=by
 obtain⟨t,rfl,hr⟩:=h hk j hh (zgK hi hc k)
 refine hr.ok hk ?_;have:=zgK hi hc 0
 by_cases h0:k=0
 ·subst h0;rw[hi.oa];unfold clB at hc;rw[Bool.and_eq_true,List.all_eq_true] at hc;simpa using hc.1 0 (by simp)
 ·by_cases h5:k=5
  ·subst h5;rw[hi.oa];unfold clB at hc;rw[Bool.and_eq_true,List.all_eq_true] at hc;have:oaB 5 p=oaB 4 p:=rfl
   rw[this];simpa using hc.1 4 (by simp)
  ·exact this.1 k (by omega) (by omega)
theorem zgo{k j j1 j' q:Nat}{o:Int}{x y:Tr}(ho:3<=o/\o<=15)(hk:k<=rowOf o)(hi:It C j1 (opName o) q)(hx:RdE C (qa (rowOf o)) j j1 x)(hy:RdE C (rowOf o+1) (j1+1) j' y)(hf:Fw C k j'):RdE C k j j' (leafT 15 za 0 o q [x,y]):=by
 have h4:=row_le o;obtain⟨f1,f2,f3⟩:=zgJ hi ho
 generalize rowOf o=ro at*;have hY:To C (.row (ro+1)) (j1+1) (.ok [y] j'):=by
  by_cases h5:ro=4
  ·subst h5;exact(hy.1 rfl).un
  ·exact hy.2 (by omega) _ (To.done (hf.1 (ro+1) (by omega) (by omega)))
 refine⟨fun h5=>by omega,fun hk4=>zat (m:=ro) hk4 hf (ro-k) (by omega) (by omega) (fun h5=>by omega) fun _ r hr=>?_⟩
 by_cases h2:ro=2
 ·subst h2;have hn:opAt 2 C.l j'=none:=by
   by_cases e:k=2
   ·exact hf.2.1 e
   ·exact hf.1 2 (by omega) (by omega)
  have:=To.same hr (To.done hn)
  subst this;have hX:To C (.row 3) j (.ok [x] j1):=hx.2 (by decide) _ (To.done (f3 3 (by omega) (by omega)))
  exact To.row (by omega) hX (To.op f2 hY (by rw[if_pos rfl,hi.pl]))
 ·have e:qa ro=ro:=by unfold qa;rw[if_neg h2]
  rw[e] at hx;exact hx.2 h4 r (To.op f2 hY (by rw[if_neg h2,hi.pl];exact hr))
end
section
variable {C:Ctx}
theorem yz{j q:Nat}{p:ByteArray}(h:It C j p q)(hp:cmB p p=true):zp C p j=some (.ok () (j+1)):=by
 unfold zp;rw[if_pos (by rw[h.cm];exact hp)]
theorem wO{j q:Nat}{s:ByteArray}(h:It C j s q)(hs:nameableB s=true):yU C j=some (.ok s (j+1)):=by
 unfold yU;rw[if_pos (by rw[h.nm];exact nm_name hs),h.tx]
theorem zhz{j q:Nat}{x:Int}(h:It C j (digs x) q)(hx:vP x):ym C j=some (.ok x (j+1)):=by
 obtain⟨p,rfl,hd,hv,_⟩:=hx
 have hd':isDigit (zK (digs x))=true:=hd;have hv':numOf (digs x)=(x,0):=hv;obtain⟨n1,n2⟩:=h.nb hd'
 unfold ym;rw[if_pos n1,n2,hv']
theorem zdA{j j1 q q1 q2:Nat}{s:ByteArray}{ts:List Tr}(h:It C j s q)(hs:nameableB s=true)(h1:It C (j+1) sAs q1)(hr:To C (.row 0) (j+2) (.ok ts j1))(h2:It C j1 sSm q2):To C .stmt j (.ok [leafT 2 s 0 0 q ts] (j1+1)):=by
 obtain⟨f,hr⟩:=hr
 refine⟨f+1,?_⟩;rw[rd,if_pos (by rw[h.nm];exact nm_name hs),if_neg (by rw[h1.cm];decide+kernel),show(⟨#[58,61]⟩:ByteArray)=sAs from rfl,yz h1 (by kernel_rfl)]
 simp only[andThen];rw[hr];simp only[andThen];rw[show(⟨#[59]⟩:ByteArray)=sSm from rfl,yz h2 (by kernel_rfl),h.pl,h.tx]
theorem zfo{j j1 j2 q q1 q2 q3 q4:Nat}{s:ByteArray}{ts us:List Tr}(h:It C j s q)(hs:nameableB s=true)(h1:It C (j+1) sLb q1)(hr:To C (.row 0) (j+2) (.ok ts j1))(h2:It C j1 sRb q2)(h3:It C (j1+1) sAs q3)(hr2:To C (.row 0) (j1+1+1) (.ok us j2))(h4:It C j2 sSm q4):To C .stmt j (.ok [leafT 3 s 0 0 q (ts++us)] (j2+1)):=by
 obtain⟨f,hr⟩:=hr
 obtain⟨g,hr2⟩:=hr2
 refine⟨max f g+1,?_⟩;rw[rd,if_pos (by rw[h.nm];exact nm_name hs),if_pos (by rw[h1.cm];kernel_rfl),yX C (Nat.le_max_left f g) _ _ _ hr]
 simp only[andThen];rw[show(⟨#[93]⟩:ByteArray)=sRb from rfl,yz h2 (by kernel_rfl)]
 simp only[andThen];rw[show(⟨#[58,61]⟩:ByteArray)=sAs from rfl,yz h3 (by kernel_rfl)]
 simp only[andThen];rw[yX C (Nat.le_max_right f g) _ _ _ hr2];simp only[andThen];rw[show(⟨#[59]⟩:ByteArray)=sSm from rfl,yz h4 (by kernel_rfl),h.pl,h.tx]
theorem zfp{j q q1 q2:Nat}{s:ByteArray}(h:It C j kInp q)(h1:It C (j+1) s q1)(hs:nameableB s=true)(h2:It C (j+1+1) sSm q2):To C .stmt j (.ok [leafT 4 s 0 0 q []] (j+1+1+1)):=⟨1,by
 rw[rd,if_neg (by rw[h.nm];decide+kernel),if_pos (by rw[h.cm];kernel_rfl),wO h1 hs]
 simp only[andThen];rw[show(⟨#[59]⟩:ByteArray)=sSm from rfl,yz h2 (by kernel_rfl),h.pl]⟩
theorem zdB{j j1 q q1:Nat}{ts:List Tr}(h:It C j kAst q)(hr:To C (.row 0) (j+1) (.ok ts j1))(h1:It C j1 sSm q1):To C .stmt j (.ok [leafT 5 za 0 0 q ts] (j1+1)):=by
 obtain⟨f,hr⟩:=hr
 refine⟨f+1,?_⟩;rw[rd,if_neg (by rw[h.nm];decide+kernel),if_neg (by rw[h.cm];decide+kernel),if_pos (by rw[h.cm];kernel_rfl),hr]
 simp only[andThen];rw[show(⟨#[59]⟩:ByteArray)=sSm from rfl,yz h1 (by kernel_rfl),h.pl]
theorem zhp{j q q1:Nat}(h:It C j kSkp q)(h1:It C (j+1) sSm q1):To C .stmt j (.ok [leafT 6 za 0 0 q []] (j+1+1)):=⟨1,by
 rw[rd,if_neg (by rw[h.nm];decide+kernel),if_neg (by rw[h.cm];decide+kernel),if_neg (by rw[h.cm];decide+kernel),if_pos (by rw[h.cm];kernel_rfl),show(⟨#[59]⟩:ByteArray)=sSm from rfl,yz h1 (by kernel_rfl),h.pl]
 rfl⟩
theorem ziy{j j1 j2 q:Nat}{ts us:List Tr}(h:It C j kIf q)(hr:To C (.row 0) (j+1) (.ok ts j1))(hb:To C .block j1 (.ok us j2))(he:zb C.l j2 kEls=false):To C .stmt j (.ok [leafT 7 za 0 0 q (ts++us)] j2):=by
 obtain⟨f,hr⟩:=hr
 obtain⟨g,hb⟩:=hb
 refine⟨max f g+1,?_⟩;rw[rd,if_neg (by rw[h.nm];decide+kernel),if_neg (by rw[h.cm];decide+kernel),if_neg (by rw[h.cm];decide+kernel),if_neg (by rw[h.cm];decide+kernel),if_pos (by rw[h.cm];kernel_rfl),yX C (Nat.le_max_left f g) _ _ _ hr]
 simp only[andThen];rw[yX C (Nat.le_max_right f g) _ _ _ hb];simp only[andThen];rw[if_neg (by rw[show(⟨#[101,108,115,101]⟩:ByteArray)=kEls from rfl,he];decide),h.pl]
theorem zix{j j1 j2 j3 q q1:Nat}{ts us vs:List Tr}(h:It C j kIf q)(hr:To C (.row 0) (j+1) (.ok ts j1))(hb:To C .block j1 (.ok us j2))(he:It C j2 kEls q1)(hb2:To C .block (j2+1) (.ok vs j3)):To C .stmt j (.ok [leafT 7 za 0 0 q (ts++us++vs)] j3):=by
 obtain⟨f,hr⟩:=hr
 obtain⟨g,hb⟩:=hb
 obtain⟨m,hb2⟩:=hb2
 refine⟨max (max f g) m+1,?_⟩;rw[rd,if_neg (by rw[h.nm];decide+kernel),if_neg (by rw[h.cm];decide+kernel),if_neg (by rw[h.cm];decide+kernel),if_neg (by rw[h.cm];decide+kernel),if_pos (by rw[h.cm];kernel_rfl),yX C (f':=max (max f g) m) (by omega) _ _ _ hr]
 simp only[andThen];rw[yX C (f':=max (max f g) m) (by omega) _ _ _ hb]
 simp only[andThen];rw[if_pos (by rw[he.cm];kernel_rfl),yX C (f':=max (max f g) m) (by omega) _ _ _ hb2,h.pl]
theorem zfm{j j1 j2 q:Nat}{ts us:List Tr}(h:It C j kWhl q)(hr:To C (.row 0) (j+1) (.ok ts j1))(hb:To C .block j1 (.ok us j2)):To C .stmt j (.ok [leafT 8 za 0 0 q (ts++us)] j2):=by
 obtain⟨f,hr⟩:=hr
 obtain⟨g,hb⟩:=hb
 refine⟨max f g+1,?_⟩;rw[rd,if_neg (by rw[h.nm];decide+kernel),if_neg (by rw[h.cm];decide+kernel),if_neg (by rw[h.cm];decide+kernel),if_neg (by rw[h.cm];decide+kernel),if_neg (by rw[h.cm];decide+kernel),if_pos (by rw[h.cm];kernel_rfl),yX C (Nat.le_max_left f g) _ _ _ hr]
 simp only[andThen];rw[yX C (Nat.le_max_right f g) _ _ _ hb,h.pl]
theorem zhn{j:Nat}(h:To C .stmt j (.ok [] j)):To C .stmts j (.ok [] j):=by
 obtain⟨f,h⟩:=h
 refine⟨f+1,?_⟩;rw[rd,h];rfl
theorem zfk{j j1 j2:Nat}{t:Tr}{us:List Tr}(h:To C .stmt j (.ok [t] j1))(h2:To C .stmts j1 (.ok us j2)):To C .stmts j (.ok (t::us) j2):=by
 obtain⟨f,h⟩:=h
 obtain⟨g,h2⟩:=h2
 refine⟨max f g+1,?_⟩;rw[rd,yX C (Nat.le_max_left f g) _ _ _ h];simp only[andThen];rw[if_neg (by simp),yX C (Nat.le_max_right f g) _ _ _ h2]
 rfl
theorem zi5{j j1 q q1:Nat}{ts:List Tr}(h:It C j sLc q)(hr:To C .stmts (j+1) (.ok ts j1))(h1:It C j1 sRc q1):To C .block j (.ok [leafT 9 za 0 0 q ts] (j1+1)):=by
 obtain⟨f,hr⟩:=hr
 refine⟨f+1,?_⟩;rw[rd,show(⟨#[123]⟩:ByteArray)=sLc from rfl,yz h (by kernel_rfl)]
 simp only[andThen];rw[hr];simp only[andThen];rw[show(⟨#[125]⟩:ByteArray)=sRc from rfl,yz h1 (by kernel_rfl),h.pl]
theorem zhA{j q:Nat}(h:It C j sRc q):NoSt C j:=⟨⟨1,by
 rw[rd,if_neg (by rw[h.nm];decide+kernel),if_neg (by rw[h.cm];decide+kernel),if_neg (by rw[h.cm];decide+kernel),if_neg (by rw[h.cm];decide+kernel),if_neg (by rw[h.cm];decide+kernel),if_neg (by rw[h.cm];decide+kernel)]⟩,by rw[h.cm];decide+kernel⟩
theorem zfP{j:Nat}(h:C.l[j]? =none):NoSt C j:=by
 have hc:∀s,zb C.l j s=false:=fun s=>by unfold zb;rw[h]
 have hn:zO C.l j=false:=by unfold zO;rw[h]
 exact⟨⟨1,by rw[rd,if_neg (by rw[hn];decide),if_neg (by rw[hc];decide),if_neg (by rw[hc];decide),if_neg (by rw[hc];decide),if_neg (by rw[hc];decide),if_neg (by rw[hc];decide)]⟩,hc _⟩
theorem zfF{j:Nat}{ts:List Tr}(h1:zb C.l j kVar=false)(h2:zb C.l j kArr=false)(h:To C .stmts j (.ok ts C.l.length)):To C .prog j (.ok ts C.l.length):=by
 obtain⟨f,h⟩:=h
 refine⟨f+1,?_⟩;rw[rd,if_neg (by rw[show(⟨#[118,97,114]⟩:ByteArray)=kVar from rfl,h1];decide),if_neg (by rw[show(⟨#[97,114,114,97,121]⟩:ByteArray)=kArr from rfl,h2];decide),h]
 simp only[andThen];rw[if_neg (Nat.lt_irrefl _)]
theorem zfE{j j1 q q1 q2:Nat}{s:ByteArray}{us:List Tr}(h:It C j kVar q)(h1:It C (j+1) s q1)(hs:nameableB s=true)(h2:It C (j+1+1) sSm q2)(hr:To C .prog (j+1+1+1) (.ok us j1)):To C .prog j (.ok (leafT 0 s 0 0 q []::us) j1):=by
 obtain⟨f,hr⟩:=hr
 refine⟨f+1,?_⟩;rw[rd,if_pos (by rw[h.cm];kernel_rfl),wO h1 hs]
 simp only[andThen];rw[show(⟨#[59]⟩:ByteArray)=sSm from rfl,yz h2 (by kernel_rfl)]
 simp only[andThen];rw[hr,h.pl]
theorem zfG{j j1 q q1 q2 q3 q4 q5:Nat}{s:ByteArray}{x:Int}{us:List Tr}(h:It C j kArr q)(h1:It C (j+1) s q1)(hs:nameableB s=true)(h2:It C (j+1+1) sLb q2)(h3:It C (j+1+1+1) (digs x) q3)(hx:vP x)(h4:It C (j+1+1+1+1) sRb q4)(h5:It C (j+1+1+1+1+1) sSm q5)
 (hr:To C .prog (j+1+1+1+1+1+1) (.ok us j1)):To C .prog j (.ok (leafT 1 s x 0 q []::us) j1):=by
 obtain⟨f,hr⟩:=hr
 refine⟨f+1,?_⟩;rw[rd,if_neg (by rw[h.cm];decide+kernel),if_pos (by rw[h.cm];kernel_rfl),wO h1 hs]
 simp only[andThen];rw[show(⟨#[91]⟩:ByteArray)=sLb from rfl,yz h2 (by kernel_rfl)]
 simp only[andThen];rw[zhz h3 hx];simp only[andThen];rw[show(⟨#[93]⟩:ByteArray)=sRb from rfl,yz h4 (by kernel_rfl)]
 simp only[andThen];rw[show(⟨#[59]⟩:ByteArray)=sSm from rfl,yz h5 (by kernel_rfl)]
 simp only[andThen];rw[hr,h.pl]
theorem ziq{i:Nat}{t t':Tr}{l:List Pc}(h:W .s i [t] l [t']):∃f p m,l=(f,p)::m/\cmB p kEls=false/\cmB p kVar=false/\cmB p kArr=false:=by
 cases h with
 |assign _ _ _ hs _=>exact⟨_,_,_,rfl,yo hs (by kernel_rfl),yo hs (by kernel_rfl),yo hs (by kernel_rfl)⟩
 |store _ _ _ _ _ hs _ _=>exact⟨_,_,_,rfl,yo hs (by kernel_rfl),yo hs (by kernel_rfl),yo hs (by kernel_rfl)⟩
 |input=>exact⟨_,_,_,rfl,by decide+kernel,by decide+kernel,by decide+kernel⟩
 |assert=>exact⟨_,_,_,rfl,by decide+kernel,by decide+kernel,by decide+kernel⟩
 |skip=>exact⟨_,_,_,rfl,by decide+kernel,by decide+kernel,by decide+kernel⟩
 |if1=>exact⟨_,_,_,rfl,by decide+kernel,by decide+kernel,by decide+kernel⟩
 |if2=>exact⟨_,_,_,rfl,by decide+kernel,by decide+kernel,by decide+kernel⟩
 | «while» =>exact⟨_,_,_,rfl,by decide+kernel,by decide+kernel,by decide+kernel⟩
theorem wF{i:Nat}{ts ts':List Tr}{l:List Pc}(h:W .b i ts l ts'):∃f m,l=(f,sLc)::m:=by
 cases h with
 |blk=>exact⟨_,_,rfl⟩
theorem ug{i j:Nat}{ts ts':List Tr}{l:List Pc}(h:W .ss i ts l ts')(hh:Here C j i l){s:ByteArray}(hs:s=kEls\/s=kVar\/s=kArr)(he:zb C.l (j+l.length) s=false):zb C.l j s=false:=by
 cases h with
 |nil=>exact he
 |cons h h2=>
  obtain⟨f,p,m,rfl,e1,e2,e3⟩:=ziq h
  have:=(hh.lt).hd
  rw[this.cm];rcases hs with rfl|rfl|rfl<;>assumption
theorem w_reads{tg:Tg}{i:Nat}{ts ts':List Tr}{l:List Pc}(h:W tg i ts l ts'):RdW C tg i l ts':=by
 induction h with
 | @wrap k i t t' l f g hf hg h ih=>
   intro hk j hh hw;have i0:=hh.hd;have i1:=hh.tl.rt.hd;have hr:=RdW.upto ih (by omega) hh.tl.lt i1 (by decide+kernel)
   have e:j+((f,sLp)::(l++[(g,sRp)])).length=j+1+l.length+1:=by simp;omega
   rw[e] at hw⊢;exact⟨t',rfl,qN i0 (by kernel_rfl) (by kernel_rfl) (zgt i0 hr i1) hk hw⟩
 | @num k i f d a x hf hx=>
   intro hk j hh hw;obtain⟨p,rfl,hd,hv,hg⟩:=hx
   exact⟨_,rfl,qN hh.hd (vy hd _) (vy hd _) (zgu hh.hd ⟨_,rfl,hd,hv,hg⟩) hk hw⟩
 |tru hf=>exact fun hk j hh hw=>⟨_,rfl,qN hh.hd (by kernel_rfl) (by kernel_rfl) (zgs hh.hd) hk hw⟩
 |fls hf=>exact fun hk j hh hw=>⟨_,rfl,qN hh.hd (by kernel_rfl) (by kernel_rfl) (zgv hh.hd) hk hw⟩
 |read hf hs=>exact fun hk j hh hw=>⟨_,rfl,qN hh.hd (yo hs (by kernel_rfl)) (yo hs (by kernel_rfl)) (zer hh.hd hs hw.2.2) hk hw⟩
 | @load k i f g h d a s e e' l hf hg hh' hs he ih=>
   intro hk j hh hw;have i0:=hh.hd;have i1:=hh.tl.hd;have i2:=hh.tl.tl.rt.hd;have hr:=RdW.upto ih (by omega) hh.tl.tl.lt i2 (by decide+kernel)
   have e:j+((f,s)::(g,sLb)::(l++[(h,sRb)])).length=j+1+1+l.length+1:=by simp;omega
   rw[e] at hw⊢;exact⟨_,rfl,qN i0 (yo hs (by kernel_rfl)) (yo hs (by kernel_rfl)) (zes i0 hs i1 hr i2) hk hw⟩
 | @un k i f d a o e e' l hf ho he ih=>
   intro hk j hh hw;have i0:=hh.hd;have e:j+((f,opName o)::l).length=j+1+l.length:=by simp;omega
   rw[e] at hw⊢;have hw5:Fw C 5 (j+1+l.length):=⟨fun m h1 h2=>by omega,fun h=>by omega,hw.2.2⟩
   rcases ho with rfl|rfl
   ·obtain⟨t',e2,hr⟩:=ih (by omega) (j+1) hh.tl hw5
    obtain rfl:e'=t':=by simpa using e2
    exact⟨_,rfl,vi (ziw i0 (hr.1 rfl)) hk hw⟩
   ·obtain⟨t',e2,hr⟩:=ih (by omega) (j+1) hh.tl hw5
    obtain rfl:e'=t':=by simpa using e2
    exact⟨_,rfl,vi (ziv i0 (hr.1 rfl)) hk hw⟩
 | @bin k i f d a o x x' y y' l m hf ho hk hx hy ihx ihy=>
   intro hk5 j hh hw;have i1:=hh.rt.hd;have h4:=row_le o;have hl4:qa (rowOf o)<=5:=by unfold qa;split<;>omega
   obtain⟨x2,e1,hrx⟩:=ihx hl4 j hh.lt (zgJ i1 ho).1
   obtain rfl:x'=x2:=by simpa using e1
   have e:j+(l++(f,opName o)::m).length=j+l.length+1+m.length:=by simp;omega
   rw[e] at hw⊢;obtain⟨y2,e2,hry⟩:=ihy (by omega) (j+l.length+1) hh.rt.tl (hw.more (by omega))
   obtain rfl:y'=y2:=by simpa using e2
   exact⟨_,rfl,zgo ho hk i1 hrx hry hw⟩
 | @assign i f g h d a s e e' l hf hg hh' hs he ih=>
   intro j hh _;have i2:=hh.tl.tl.rt.hd;have hr:=RdW.upto ih (by omega) hh.tl.tl.lt i2 (by decide+kernel)
   have e:j+((f,s)::(g,sAs)::(l++[(h,sSm)])).length=j+1+1+l.length+1:=by simp;omega
   rw[e];exact zdA hh.hd hs hh.tl.hd hr i2
 | @store i f g h h2 h3 d a s x x' y y' l m hf hg hh' hh2 hh3 hs hx hy ihx ihy=>
   intro j hh _;have i2:=hh.tl.tl.rt.hd;have hrx:=RdW.upto ihx (by omega) hh.tl.tl.lt i2 (by decide+kernel)
   have i3:=hh.tl.tl.rt.tl.hd;have i4:=hh.tl.tl.rt.tl.tl.rt.hd;have hry:=RdW.upto ihy (by omega) hh.tl.tl.rt.tl.tl.lt i4 (by decide+kernel)
   have e:j+((f,s)::(g,sLb)::(l++(h,sRb)::(h2,sAs)::(m++[(h3,sSm)]))).length=j+1+1+l.length+1+1+m.length+1:=by simp;omega
   rw[e];exact zfo hh.hd hs hh.tl.hd hrx i2 i3 hry i4
 |input hf hg hh' hs=>exact fun j hh _=>zfp hh.hd hh.tl.hd hs hh.tl.tl.hd
 | @assert i f h d a e e' l hf hh' he ih=>
   intro j hh _;have i2:=hh.tl.rt.hd;have hr:=RdW.upto ih (by omega) hh.tl.lt i2 (by decide+kernel)
   have e:j+((f,kAst)::(l++[(h,sSm)])).length=j+1+l.length+1:=by simp;omega
   rw[e];exact zdB hh.hd hr i2
 |skip hf hh'=>exact fun j hh _=>zhp hh.hd hh.tl.hd
 | @if1 i f d a e e' x x' l m hf he hx ih ihx=>
   intro j hh hels;obtain⟨f2,m2,hm⟩:=wF hx
   obtain⟨q2,i2⟩:∃q,It C (j+1+l.length) sLc q:=by have:=hh.tl.rt;rw[hm] at this;exact⟨_,this.hd⟩
   have hr:=RdW.upto ih (by omega) hh.tl.lt i2 (by decide+kernel)
   have hb:=ihx (j+1+l.length) hh.tl.rt;have e:j+((f,kIf)::(l++m)).length=j+1+l.length+m.length:=by simp;omega
   rw[e] at hels⊢;exact ziy hh.hd hr hb hels
 | @if2 i f g d a e e' x x' y y' l m n hf hg he hx hy ih ihx ihy=>
   intro j hh _;obtain⟨f2,m2,hm⟩:=wF hx
   have hX:=hh.tl.rt.lt;obtain⟨q2,i2⟩:∃q,It C (j+1+l.length) sLc q:=by have:=hX;rw[hm] at this;exact⟨_,this.hd⟩
   have hr:=RdW.upto ih (by omega) hh.tl.lt i2 (by decide+kernel)
   have hb:=ihx (j+1+l.length) hX;have hb2:=ihy (j+1+l.length+m.length+1) hh.tl.rt.rt.tl;have e:j+((f,kIf)::(l++(m++(g,kEls)::n))).length=j+1+l.length+m.length+1+n.length:=by simp;omega
   rw[e];exact zix hh.hd hr hb hh.tl.rt.rt.hd hb2
 | @«while» i f d a e e' x x' l m hf he hx ih ihx=>
   intro j hh _;obtain⟨f2,m2,hm⟩:=wF hx
   obtain⟨q2,i2⟩:∃q,It C (j+1+l.length) sLc q:=by have:=hh.tl.rt;rw[hm] at this;exact⟨_,this.hd⟩
   have hr:=RdW.upto ih (by omega) hh.tl.lt i2 (by decide+kernel)
   have hb:=ihx (j+1+l.length) hh.tl.rt;have e:j+((f,kWhl)::(l++m)).length=j+1+l.length+m.length:=by simp;omega
   rw[e];exact zfm hh.hd hr hb
 |nil=>exact fun j hh hn=>zhn hn.1
 | @cons i t t' l ts ts' m h h2 ih ih2=>
   intro j hh hn;have e:j+(l++m).length=j+l.length+m.length:=by simp;omega
   rw[e] at hn⊢;exact zfk (ih j hh.lt (ug h2 hh.rt (.inl rfl) hn.2)) (ih2 _ hh.rt hn)
 | @blk i f g d a ts ts' l hf hg h ih=>
   intro j hh;have i2:=hh.tl.rt.hd;have e:j+((f,sLc)::(l++[(g,sRc)])).length=j+1+l.length+1:=by simp;omega
   rw[e];exact zi5 hh.hd (ih (j+1) hh.tl.lt (zhA i2)) i2
 | @sts i ts l ts' h ih=>
   intro j hh hl;have hn:C.l[j+l.length]? =none:=List.getElem?_eq_none (by omega)
   have hc:∀s,zb C.l (j+l.length) s=false:=fun s=>by unfold zb;rw[hn]
   rw[<-hl];refine zfF (ug h hh (.inr (.inl rfl)) (hc _)) (ug h hh (.inr (.inr rfl)) (hc _)) ?_;rw[hl];exact ih j hh (zfP hn)
 | @var i f g h d a s ts ts' l hf hg hh' hs h2 ih=>
   intro j hh hl;have e:j+((f,kVar)::(g,s)::(h,sSm)::l).length=j+1+1+1+l.length:=by simp;omega
   rw[e] at hl⊢;exact zfE hh.hd hh.tl.hd hs hh.tl.tl.hd (ih _ hh.tl.tl.tl hl)
 | @arr i f g h h2 h3 h4 d a s x ts ts' l hf hg hh' hh2 hh3 hh4 hs hn h5 ih=>
   intro j hh hl;have e:j+((f,kArr)::(g,s)::(h,sLb)::(h2,digs x)::(h3,sRb)::(h4,sSm)::l).length=j+1+1+1+1+1+1+l.length:=by simp;omega
   rw[e] at hl⊢;exact zfG hh.hd hh.tl.hd hs hh.tl.tl.hd hh.tl.tl.tl.hd hn hh.tl.tl.tl.tl.hd hh.tl.tl.tl.tl.tl.hd (ih _ hh.tl.tl.tl.tl.tl.tl hl)
end
def ji(k:Int):Prop:=0<rwants k\/k=9
instance (k:Int):Decidable (ji k):=inferInstanceAs (Decidable (_\/_))
inductive Kid:Int->Int->List Tr->Prop
 |done {k h} (hl:lacks ⟨0,k,h⟩=false):Kid k h []
 |push {k h n us ks} (hr:rholds ⟨0,k,h⟩ n.kind=true) (hf:fieldsB n=true) (hp:ji n.kind) (hu:Kid n.kind 0 us) (hk:Kid k (h+1) ks):Kid k h (.mk n us::ks)
 |leaf {k h n ks} (hr:rholds ⟨0,k,h⟩ n.kind=true) (hf:fieldsB n=true) (hp:¬ji n.kind) (hk:Kid k (h+1) ks):Kid k h (.mk n []::ks)
def Vt:Tr->Prop
 | .mk n us=>fieldsB n=true/\(ji n.kind->Kid n.kind 0 us)/\(¬ji n.kind->us=[])
def zu:Tr->Int
 | .mk n _=>n.kind
inductive Root:Bool->List Tr->Prop
 |nil {b}:Root b []
 |decl {t ts} (hv:Vt t) (hd:zu t=0\/zu t=1) (h:Root false ts):Root false (t::ts)
 |stmt {b t ts} (hv:Vt t) (hs:zx (zu t)=true) (h:Root true ts):Root b (t::ts)
theorem gA(t:Opn):lacks ⟨0,t.kind,t.has⟩=lacks t:=rfl
theorem vX(t:Opn)(k:Int):rholds ⟨0,t.kind,t.has⟩ k=rholds t k:=rfl
theorem qM{st:List Opn}{b:Bool}{i:Nat}{n:Nd}{l:List Nd}(h:rshapeG st b i (n::l)=(0,0)):fieldsB n=true/\∃c:Nat,n.depth=(c:Int)+1/\c<=st.length/\(st.drop c).any lacks=false/\
 ((c=0/\(((n.kind=0\/n.kind=1)/\b=false)\/(¬(n.kind=0\/n.kind=1)/\zx n.kind=true))/\rshapeG (yT [] n) (b || !(decide (n.kind=0\/n.kind=1))) (i+1) l=(0,0))\/
   ∃k t,c=k+1/\st[k]? =some t/\rholds t n.kind=true/\rshapeG (yT (st.take k++[{t with has:=t.has+1}]) n) b (i+1) l=(0,0)):=by
 have h33:∀j:Nat,((33,(j:Int)):Int×Int)≠(0,0):=fun j e=>by simp at e
 have h31:∀j:Nat,((31,(j:Int)):Int×Int)≠(0,0):=fun j e=>by simp at e
 unfold rshapeG at h;cases hs:yA st b n with
 |none=>rw[hs] at h;exact absurd h (h33 _)
 |some x=>
  obtain⟨st',b'⟩:=x
  rw[hs] at h;simp only at h
  split at h
  ·exact absurd h (h31 _)
  ·unfold yA at hs
   split at hs
   ·cases hs
   ·rename_i hla
    split at hs
    ·cases hs
    ·rename_i hd;have hf:fieldsB n=true:=by
      cases hf:fieldsB n with
      |true=>rfl
      |false=>exact absurd (.inr hf) hd
     have hdep:n.depth=(rcut n.depth st:Int)+1:=Classical.byContradiction fun e=>hd (.inl e);refine⟨hf,rcut n.depth st,hdep,zh4 _ _,by simpa using hla,?_⟩
     split at hs
     ·rename_i hc
      split at hs
      ·cases hs
      ·rename_i hk;cases hs;refine .inl ⟨hc,?_,h⟩;by_cases hdc:n.kind=0\/n.kind=1
       ·refine .inl ⟨hdc,?_⟩;cases b with
        |false=>rfl
        |true=>exact absurd (.inl ⟨hdc,rfl⟩) hk
       ·refine .inr ⟨hdc,?_⟩;cases hsb:zx n.kind with
        |true=>rfl
        |false=>exact absurd (.inr ⟨hdc,hsb⟩) hk
     ·rename_i k hc
      split at hs
      ·cases hs
      ·rename_i t ht
       split at hs
       ·cases hs
       ·rename_i hr;cases hs;exact .inr ⟨k,t,hc,ht,by simpa using hr,h⟩
theorem rs_end{st:List Opn}{b:Bool}{i:Nat}(h:rshapeG st b i []=(0,0)):st.any lacks=false:=by
 unfold rshapeG at h
 split at h
 ·simp at h
 ·rename_i hn;simpa using hn
theorem any_at{st junk:List Opn}{t:Opn}{c:Nat}(hc:c<=st.length)(h:((st++t::junk).drop c).any lacks=false):lacks t=false:=by
 rw[List.any_eq_false] at h;have:=h t (by
  rw[List.drop_append_of_le_length hc];simp)
 simpa using this
theorem zao{n:Nd}{d:Int}(h:n.depth=d):n=⟨d,n.kind,n.name,n.num,n.op,n.at_⟩:=by
 subst h;rfl
theorem kB:∀(N:Nat) (l:List Nd),l.length<=N->∀(st:List Opn) (t:Opn) (junk:List Opn) (b:Bool) (i:Nat),(∀m l3,l=m::l3->m.depth<=(st.length:Int)+2)->rshapeG (st++t::junk) b i l=(0,0)->
 ∃ks l2 t' junk' i',l=flatTs ks ((st.length:Int)+2)++l2/\Kid t.kind t.has ks/\(∀m l3,l2=m::l3->m.depth<=(st.length:Int)+1)/\l2.length<=l.length/\rshapeG (st++t'::junk') b i' l2=(0,0)
 |N,[],_,st,t,junk,b,i,_,h=>by
  have:=rs_end h
  refine⟨[],[],t,junk,i,rfl, .done ?_,fun m l3 e=>by simp at e,Nat.le_refl _,h⟩
  rw[gA];exact any_at (c:=0) (Nat.zero_le _) (by simpa using this)
 |0,n::l,hN,_,_,_,_,_,_,_=>by simp at hN
 |N+1,n::l,hN,st,t,junk,b,i,hd,h=>by
  have hlN:l.length<=N:=by simpa using hN
  obtain⟨hf,c,hdep,hc,hla,hcase⟩:=qM h
  have hd0:=hd n l rfl;by_cases hle:c<=st.length
  ·refine⟨[],n::l,t,junk,i,rfl, .done ?_,fun m l3 e=>?_,Nat.le_refl _,h⟩
   ·rw[gA];exact any_at hle hla
   ·simp only[List.cons.injEq] at e;obtain⟨rfl,_⟩:=e
    omega
  ·have hce:c=st.length+1:=by omega
   rcases hcase with⟨h0,_⟩|⟨k,u,hk,hu,hr,hrun⟩
   ·omega
   ·have hks:k=st.length:=by omega
    subst hks;have hut:u=t:=by
     rw[List.getElem?_append_right (Nat.le_refl _)] at hu;simpa using hu.symm
    subst hut;have htk:(st++u::junk).take st.length=st:=by simp
    rw[htk] at hrun;have hnd:=zao (d:=(st.length:Int)+2) (n:=n) (by omega)
    unfold yT at hrun;by_cases hp:ji n.kind
    ·rw[if_pos (by exact hp)] at hrun
     have hdl:∀m l3,l=m::l3->m.depth<=((st++[({u with has:=u.has+1}:Opn)]).length:Int)+2:=fun m l3 e=>by
      subst e;obtain⟨_,c2,e1,e2,_⟩:=qM hrun
      simp at e2⊢
      omega
     obtain⟨us,l2,u',junk',i',e1,e2,e3,e4,e5⟩:=kB N l hlN (st++[{u with has:=u.has+1}]) ⟨n.depth,n.kind,0⟩ [] b (i+1) hdl hrun
     have hst:((st++[({u with has:=u.has+1}:Opn)]).length:Int)=(st.length:Int)+1:=by simp
     rw[hst] at e1 e3;obtain⟨ks,l4,u2,junk2,i2,f1,f2,f3,f4,f5⟩:=kB N l2 (by omega) st {u with has:=u.has+1} (u'::junk') b i' (fun m l3 e=>by have:=e3 m l3 e;omega) (by simpa using e5)
     refine⟨.mk n us::ks,l4,u2,junk2,i2,?_, .push (by rw[vX];exact hr) hf hp e2 f2,f3,by simp;omega,f5⟩
     rw[flatTs,flatT,e1,f1,show(st.length:Int)+1+2=(st.length:Int)+2+1 from by omega]
     simp only[List.cons_append,List.append_assoc];rw[<-hnd]
    ·rw[if_neg (by exact hp)] at hrun
     have hdl:∀m l3,l=m::l3->m.depth<=(st.length:Int)+2:=fun m l3 e=>by
      subst e;obtain⟨_,c2,e1,e2,_⟩:=qM hrun
      simp at e2;omega
     obtain⟨ks,l4,u2,junk2,i2,f1,f2,f3,f4,f5⟩:=kB N l hlN st {u with has:=u.has+1} [] b (i+1) hdl hrun
     refine⟨.mk n []::ks,l4,u2,junk2,i2,?_, .leaf (by rw[vX];exact hr) hf hp f2,f3,by simp;omega,f5⟩
     rw[flatTs,flatT,flatTs,f1];simp only[List.cons_append,List.append_assoc,List.nil_append];rw[<-hnd]
theorem roots_run:∀(N:Nat) (l:List Nd),l.length<=N->∀(junk:List Opn) (b:Bool) (i:Nat),(∀m l3,l=m::l3->m.depth<=1)->rshapeG junk b i l=(0,0)->∃ts,l=flatTs ts 1/\Root b ts
 |N,[],_,_,_,_,_,_=>⟨[],rfl, .nil⟩
 |0,n::l,hN,_,_,_,_,_=>by simp at hN
 |N+1,n::l,hN,junk,b,i,hd,h=>by
  have hlN:l.length<=N:=by simpa using hN
  obtain⟨hf,c,hdep,hc,hla,hcase⟩:=qM h
  have hd0:=hd n l rfl;rcases hcase with⟨h0,hk,hrun⟩|⟨k,u,hk,_⟩
  ·have hnd:=zao (d:=1) (n:=n) (by omega)
   unfold yT at hrun;by_cases hp:ji n.kind
   ·rw[if_pos (by exact hp)] at hrun
    obtain⟨us,l2,u',junk',i',e1,e2,e3,e4,e5⟩:=kB N l hlN [] ⟨n.depth,n.kind,0⟩ [] _ (i+1) (fun m l3 e=>by
     subst e;obtain⟨_,c2,e1,e2,_⟩:=qM hrun
     simp at e2⊢
     omega) hrun
    obtain⟨ts,f1,f2⟩:=roots_run N l2 (by omega) _ _ i' (fun m l3 e=>by have:=e3 m l3 e;simpa using this) e5
    have hst:n.kind≠0/\n.kind≠1:=by
     unfold ji rwants at hp;constructor<;>intro e<;>rw[e] at hp<;>revert hp<;>decide
    rcases hk with⟨hk,_⟩|⟨hk,hs⟩
    ·rcases hk with hk|hk
     ·exact absurd hk hst.1
     ·exact absurd hk hst.2
    ·rw[decide_eq_false hk] at f2;refine⟨.mk n us::ts,?_, .stmt ⟨hf,fun _=>e2,fun e=>absurd hp e⟩ hs (by simpa using f2)⟩
     rw[flatTs,flatT,e1,f1];simp only[List.cons_append,List.append_assoc];rw[<-hnd];rfl
   ·rw[if_neg (by exact hp)] at hrun
    obtain⟨ts,f1,f2⟩:=roots_run N l hlN _ _ (i+1) (fun m l3 e=>by
     subst e;obtain⟨_,c2,e1,e2,_⟩:=qM hrun
     simp at e2;omega) hrun
    have hv:Vt (.mk n []):=⟨hf,fun e=>absurd e hp,fun _=>rfl⟩;have hfl:n::l=flatTs (.mk n []::ts) 1:=by
     rw[flatTs,flatT,flatTs,f1];simp only[List.cons_append,List.nil_append];rw[<-hnd]
    rcases hk with⟨hk,rfl⟩|⟨hk,hs⟩
    ·refine⟨_,hfl, .decl hv hk ?_⟩;rw[decide_eq_true hk] at f2;simpa using f2
    ·refine⟨_,hfl, .stmt hv hs ?_⟩;rw[decide_eq_false hk] at f2;simpa using f2
  ·omega
theorem forest_of{l:List Nd}(h:rshapeF l=(0,0)):l.length<=300/\∃ts,l=flatTs ts 1/\Root false ts:=by
 unfold rshapeF at h
 split at h
 ·simp at h
 ·rename_i hl;refine⟨by omega,roots_run l.length l (Nat.le_refl _) [] false 0 (fun m l3 e=>?_) h⟩
  subst e;obtain⟨_,c2,e1,e2,_⟩:=qM h
  simp at e2;omega
end Go.Proofs.YtonmcakdofbjiaaGreatDoor
