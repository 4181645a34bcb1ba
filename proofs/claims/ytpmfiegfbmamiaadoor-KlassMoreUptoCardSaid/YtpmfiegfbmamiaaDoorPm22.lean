/- Contract: klass's maker: code. -/
import Derived.Test.YtpmfiegfbmamiaaDoorPm19
import Derived.Test.YtpmfiegfbmamiaaDoorPm21
namespace Go.Proofs.YtpmfiegfbmamiaaDoor
set_option maxRecDepth 100000
set_option maxHeartbeats 16000000
open Go.RowKit
set_option linter.unusedSimpArgs false
def fOw (E:TypeId) (B:Nat) (l:List UInt8) (x:Value) (S:Nat→Prop) (w:World):Prop:=S=Fow x∧OwB w B E x l
section
variable {E:TypeId} {B:Nat} {l l':List UInt8} {x:Value} {S:Nat→Prop} {w w':World} {Q:Exit→Act→World→Prop} {A:Value→Act} {Fj:Value→(Nat→Prop)→World→Prop} {C:Nat→Prop} {a:Act}
theorem Live.ow (h:Live (fOw E B l) x S w):S=Fow x∧Bx (OwB w B E x l):=by
 obtain⟨w1,⟨s,o⟩,z,c⟩:=h;exact⟨s,bx (OwL.ch o c (fun k hk hn=>hn (by rw[s];exact hk)))⟩
theorem W7x (hQ:∀x T w' a,a=A x→Fj x T w'→(∀k,T k→k<w'.heap.size)→Ch w w' C→(∀k,T k→C k∨w.heap.size≤k)→Q .normal a w') (ha:a=A (.slice (some ⟨w.heap.size,0,none⟩) 0 0)) (hB:B≤w.heap.size)
  (hF:fOw E B [] (.slice (some ⟨w.heap.size,0,none⟩) 0 0) (Fow (.slice (some ⟨w.heap.size,0,none⟩) 0 0)) (w.alloc (.cells #[] E))→Fj (.slice (some ⟨w.heap.size,0,none⟩) 0 0) (Fow (.slice (some ⟨w.heap.size,0,none⟩) 0 0)) (w.alloc (.cells #[] E))):Q .normal a (w.alloc (.cells #[] E)):=by
 have hb:=Y9z (Below.refl w.heap.size w) (Z00 _) (.cells #[] E);have h1:(w.alloc (.cells #[] E)).heap.size=w.heap.size+1:=(by simp);refine hQ _ _ _ a ha (hF ⟨rfl,OwL.lit0 w hB⟩) (fun k h=>?_) (Ch.of_below hb) (fun k h=>?_)
 ·have h:some w.heap.size=some k:=h
  injection h with h
  omega
 ·have h:some w.heap.size=some k:=h
  injection h with h
  exact .inr (by omega)
theorem Y2k {v v':Value} (hQ:∀x T w' a,a=A x→Fj x T w'→(∀k,T k→k<w'.heap.size)→Ch w w' C→(∀k,T k→C k∨w.heap.size≤k)→Q .normal a w') (ha:a=A v') (ho:OwB w' B E v' l') (hf:Fo w (Fow v) w' (Fow v')) (hC:∀k,Fow v k→C k)
  (hF:fOw E B l' v' (Fow v') w'→Fj v' (Fow v') w'):Q .normal a w':=
 hQ v' (Fow v') w' a ha (hF ⟨rfl,ho⟩) (fun k h=>(World.ownsRow.lt ho k h).2) (hf.ch.mono fun q _ h=>hC q h) (fun k h=>by
  rcases hf.ow k h with e | e
  ·exact .inl (hC k e)
  ·exact .inr e)
end
def consC:Nat→Nat
 | 0=>6
 | 5=>6
 | 6=>11
 | 10=>11
 | 11=>14
 | 14=>19
 | 18=>19
 | 19=>20
 | _=>1000
def dstC:Nat→Option Tmp
 | 0=>some 10
 | 1=>some 11
 | 2=>some 12
 | 3=>some 13
 | 4=>some 14
 | 5=>some 15
 | 6=>some 16
 | 7=>some 17
 | 8=>some 18
 | 9=>some 19
 | 10=>some 20
 | 11=>some 21
 | 12=>some 22
 | 13=>some 23
 | 14=>some 24
 | 15=>some 25
 | 16=>some 26
 | 17=>some 27
 | 18=>some 28
 | 19=>some 29
 | 20=>some 5
 | _=>none
def DC:List (List Nat):=[[],[],[1],[],[3],[2,4],[0,5],[],[7],[8],[9],[6,10],[],[12],[11,13],[],[15],[16],[17],[14,18],[19]]
def FC (E:TypeId) (B g:Nat) (st lo:Int) (cA:Option Addr) (cn cc:Nat) (hA:Option Addr) (hn hc:Nat) (h1 h2 h3 h4:List UInt8):Nat→Value→(Nat→Prop)→World→Prop
 | 0=>fOw E B []
 | 1=>fPure (.pointer (some ⟨g,4,none⟩))
 | 2=>fPure (.int .i64 st)
 | 3=>fPure (.pointer (some ⟨g,5,none⟩))
 | 4=>fPure (.int .i64 lo)
 | 5=>fRow [st,lo] 2
 | 6=>fOw E B h1
 | 7=>fPure (.pointer (some ⟨g,6,none⟩))
 | 8=>fPure (.slice cA cn cc)
 | 9=>fPure (.int .i64 (cn:Int))
 | 10=>fRow [(cn:Int)] 1
 | 11=>fOw E B h2
 | 12=>fPure (.pointer (some ⟨g,6,none⟩))
 | 13=>fPure (.slice cA cn cc)
 | 14=>fOw E B h3
 | 15=>fPure (.pointer (some ⟨g,7,none⟩))
 | 16=>fPure (.slice hA hn hc)
 | 17=>fPure (.int .i64 (hn:Int))
 | 18=>fRow [(hn:Int)] 1
 | 19=>fOw E B h4
 | 20=>fOw E B h4
 | _=>fun _ _ _=>True
structure MtOk (w0:World) (x:MtE):Prop where
 mx:MtX w0 (fun k=>k<w0.heap.size) x
 ms:MtS x.p
 hs:∀h∈x.hs.l,h.name.length≤2000000
 fs:∀f∈x.fs.l,FrOk w0 f
theorem X3x (w0 w:World) (gk gm:Nat) (cs:Array Value) (V:Value) (P:List Cst) (m:MtE) (h:MkR w0 w gk gm cs V P) (hm:MtOk w0 m) (hP:P.length≤600000000) :
  Calls Tryd.prog 13 #[.pointer (some ⟨gk,0,none⟩),.agg #[.int .i64 m.access,strQ m.name,strQ m.desc,.bool m.there,.int .i64 m.stack,.int .i64 m.locals,slV m.code,m.hs.v,m.fs.v]] w (MnPost w0 w gk gm cs V (mcdK P m.p)):=by
 have Cg:=bx hm;have We:=bx hP;obtain⟨ac,nm,ds,th,st,lo,⟨cA,cn,cc,cl⟩,⟨hA,hn,hc,hs⟩,⟨fA,fn,fc,fs⟩⟩:=m;unfold slV Sq.v strQ;dsimp only;have hcd:cl.length=cn:=hm.mx.code.1;have hhd:hs.length=hn:=hm.mx.hs.1;have hfd:fs.length=fn:=hm.mx.fs.1;have hsz:(cl.length≤4096∧hs.length≤64∧(fs.map FrE.p).length≤256):=hm.ms.1;rw[Z17]at hsz;have L0:Bx (RB w0 w0.heap.size cA cl):=bx (hm.mx.code.slB (fun _ h=>h)).2.2.2;have HHD:Bx (RS hnC w0 w0.heap.size hA hs):=bx (hm.mx.hs.rs (fun _ h=>h));have HFD:Bx (RS frC w0 w0.heap.size fA fs):=bx (hm.mx.fs.rs (fun _ h=>h));have Vu:Bx (cl.length=cn∧hs.length=hn∧fs.length=fn∧cn≤4096∧hn≤64∧fn≤256):=bx ⟨hcd,hhd,hfd,by omega,by omega,by omega⟩;have hb1:=Y9z (Below.refl w.heap.size w) (Z00 _) (.cells #[.int .i64 ac,.string ⟨nm.toArray⟩,.string ⟨ds.toArray⟩,.bool th,.int .i64 st,.int .i64 lo,.slice cA cn cc,.slice hA hn hc,.slice fA fn fc] 51);obtain⟨g,hg⟩:∃g,w.heap.size=g:=⟨_,rfl⟩;have hkb:=Bk.newAt w 51 #[.int .i64 ac,.string ⟨nm.toArray⟩,.string ⟨ds.toArray⟩,.bool th,.int .i64 st,.int .i64 lo,.slice cA cn cc,.slice hA hn hc,.slice fA fn fc] hg;have hmk:=h.below hb1;have hz1:=hb1.size;have hbw:=h.bel.size;have hgF:∀k,Mkf gk gm V k→k≠g:=fun k e=>by have:=(h.foot k e).2;omega
 have HMF:Bx (∀k,Mkf gk gm V k→k<w.heap.size):=bx (fun k e=>(h.foot k e).2);clear h hm hP hcd hhd hfd hsz
 go_enter Tryd.func13,Tryd.ntmps13
 go_upto_region 1 with(fail)
 (try rw[hg])
 generalize w.alloc (.cells #[.int .i64 ac,.string ⟨nm.toArray⟩,.string ⟨ds.toArray⟩,.bool th,.int .i64 st,.int .i64 lo,.slice cA cn cc,.slice hA hn hc,.slice fA fn fc] 51)=w1 at hkb hmk hb1 hz1 ⊢;have Yz:=bx hkb;have Xt:=bx hmk;have Zl:=bx hb1;have Sd:=bx hgF;have D5:=bx hg;have Yu:=bx hbw;clear hkb hmk hb1 hgF hg hz1 hbw;obtain⟨h1,hh1⟩:∃h1,[st,lo].flatMap (beB 2)=h1:=⟨_,rfl⟩;obtain⟨h2,hh2⟩:∃h2,h1++beB 4 (cn:Int)=h2:=⟨_,rfl⟩;obtain⟨h3,hh3⟩:∃h3,h2++cl=h3:=⟨_,rfl⟩;obtain⟨h4,hh4⟩:∃h4,h3++beB 2 (hn:Int)=h4:=⟨_,rfl⟩;have Cf:Bx ([]++[st,lo].flatMap (beB 2)=h1∧h1++[(cn:Int)].flatMap (beB 4)=h2∧h2++cl=h3∧h3++[(hn:Int)].flatMap (beB 2)=h4):=bx ⟨by simpa using hh1,by simpa using hh2,hh3,by simpa using hh4⟩
 have Di:Bx (([]:List UInt8).length≤10∧h1.length≤10∧h3.length≤5000):=bx (by
  have e1:h1.length=4:=by rw[←hh1];simp [beB_len]
  refine⟨by simp,by omega,?_⟩
  have:=Vu.out
  rw[←hh3,←hh2,Z09,Z09,beB_len,e1];omega)
 have Xo:Bx ((h2.length+cl.length)*1≤140737488355328):=bx (by
  have e1:h1.length=4:=by rw[←hh1];simp [beB_len]
  have:=Vu.out
  rw[←hh2,Z09,beB_len,e1];omega)
 clear hh1 hh2 hh3 hh4
 go_cut [5] from 10 to 29 (fun bv wx=>∃(A5:Option Addr) (n5 c5:Nat),bv = .slice A5 n5 c5∧Bx (Below w1.heap.size w1 wx)∧Bx (OwB wx w1.heap.size 5 (.slice A5 n5 c5) h4))
 case first=>
  have Sj:=Yz;have Cq:Bx (cl.length=cn∧∀wx,Ch w1 wx fNo→RB wx w0.heap.size cA cl):=bx ⟨Vu.out.1,fun wx hc=>L0.out.below (Xt.out.bel.trans (hc.below Xt.out.bel.size (fun _ _ h=>h))) (Z00 _)⟩;refine Y3g (by kernel_rfl) dstC (by kernel_rfl) (FC 5 w1.heap.size g st lo cA cn cc hA hn hc h1 h2 h3 h4) consC fNo DC [] (by kernel_rfl) undef fNo trivial (fun _ h=>h.elim) (fun _ h=>h) ⟨?_,?_,?_,?_,?_,?_,?_,?_,?_,?_,?_,?_,?_,?_,?_,?_,?_,?_,?_,?_,?_,trivial⟩ ?_
  -- DEV{ iterate 21 (next=>sorry)
  -- GEN1 {
  ·show StepR _ _ _ _ _ _ _ [] [] 0 _
   intro v S w2 HC HL HU HD Q hQ;simp only[putsF];go_wp2_with fail
   exact W7x hQ rfl HC.size (fun h=>h)
  ·show StepR _ _ _ _ _ _ _ [] [] 1 _
   intro v S w2 HC HL HU HD Q hQ;simp only[putsF];go_wp2_with fail
   exact Y8q hQ rfl ⟨rfl,rfl⟩
  ·show StepR _ _ _ _ _ _ _ [1] [1] 2 _
   intro v S w2 HC HL HU HD Q hQ;have e1:=Live.pure (HL 1 (by decide));simp only[putsF,dstC,e1];have hbk:=Sj.out.ch HC (fun h=>h);have hc:=hbk.cell;have hc4:=hc 4;have hc5:=hc 5;have hc6:=hc 6;have hc7:=hc 7;have hgl:=hbk.lt;clear hc hbk;go_wp2_with fail
   exact Y8q hQ (by simp only[putsF,dstC,e1];rfl) ⟨rfl,rfl⟩
  ·show StepR _ _ _ _ _ _ _ [] [] 3 _
   intro v S w2 HC HL HU HD Q hQ;simp only[putsF];go_wp2_with fail
   exact Y8q hQ rfl ⟨rfl,rfl⟩
  ·show StepR _ _ _ _ _ _ _ [3] [3] 4 _
   intro v S w2 HC HL HU HD Q hQ;have e3:=Live.pure (HL 3 (by decide));simp only[putsF,dstC,e3];have hbk:=Sj.out.ch HC (fun h=>h);have hc:=hbk.cell;have hc4:=hc 4;have hc5:=hc 5;have hc6:=hc 6;have hc7:=hc 7;have hgl:=hbk.lt;clear hc hbk;go_wp2_with fail
   exact Y8q hQ (by simp only[putsF,dstC,e3];rfl) ⟨rfl,rfl⟩
  ·show StepR _ _ _ _ _ _ _ [2,4] [2,4] 5 _
   intro v S w2 HC HL HU HD Q hQ;have e2:=Live.pure (HL 2 (by decide));have e4:=Live.pure (HL 4 (by decide));simp only[putsF,dstC,e2,e4];go_wp2_with fail
   exact Y0p hQ (by simp only[putsF,dstC,e2,e4];rfl) ⟨_,rfl,rfl,(RL.news w2 [st,lo] _ rfl _ _).more (by simp)⟩
  ·show StepR _ _ _ _ _ _ _ [0,5] [0,5] 6 _
   intro v S w2 HC HL HU HD Q hQ;obtain⟨s0,O0⟩:=Live.ow (HL 0 (by decide));obtain⟨A0,n0,c0,e0,_,_⟩:=OwL.sl O0.out;rw[e0]at s0 O0;obtain⟨g5,e5,s5,R5,Z5⟩:=Live.row (HL 5 (by decide));simp only[putsF,dstC,e0,e5];go_wp2_with fail
   have hdj:¬Fow (.slice A0 n0 c0) g5:=by have:=HD 5 (by decide) 0 (by decide) (by decide) g5 (by rw[s5]);rwa [s0]at this
   refine(Y8f w1.heap.size 2 2 2 (.slice A0 n0 c0) [] (some ⟨g5,0,none⟩) [st,lo] w2 O0.out HC.size rfl R5.out (fun _ ad ha=>by injection ha with ha;rw[←ha];exact hdj) (by decide) (by decide) (by decide) (by have:=Di.out.1;omega)).mono ?_
   rintro e w3 ⟨v2,rfl,hr2,hf2⟩;rw[Cf.out.1]at hr2;obtain⟨A,n,c,rfl,_,_⟩:=OwL.sl hr2;go_wp2_with fail
   exact Y2k hQ (by simp only[putsF,dstC,e0,e5];rfl) hr2 hf2 (fun q hq=>⟨0,by decide,rfl,by rw[s0];exact hq⟩) (fun h=>h)
  ·show StepR _ _ _ _ _ _ _ [] [] 7 _
   intro v S w2 HC HL HU HD Q hQ;simp only[putsF];go_wp2_with fail
   exact Y8q hQ rfl ⟨rfl,rfl⟩
  ·show StepR _ _ _ _ _ _ _ [7] [7] 8 _
   intro v S w2 HC HL HU HD Q hQ;have e7:=Live.pure (HL 7 (by decide));simp only[putsF,dstC,e7];have hbk:=Sj.out.ch HC (fun h=>h);have hc:=hbk.cell;have hc4:=hc 4;have hc5:=hc 5;have hc6:=hc 6;have hc7:=hc 7;have hgl:=hbk.lt;clear hc hbk;go_wp2_with fail
   exact Y8q hQ (by simp only[putsF,dstC,e7];rfl) ⟨rfl,rfl⟩
  ·show StepR _ _ _ _ _ _ _ [8] [8] 9 _
   intro v S w2 HC HL HU HD Q hQ;have e8:=Live.pure (HL 8 (by decide));simp only[putsF,dstC,e8];go_wp2_with fail
   exact Y8q hQ (by simp only[putsF,dstC,e8];rfl) ⟨rfl,rfl⟩
  ·show StepR _ _ _ _ _ _ _ [9] [9] 10 _
   intro v S w2 HC HL HU HD Q hQ;have e9:=Live.pure (HL 9 (by decide));simp only[putsF,dstC,e9];go_wp2_with fail
   exact Y0p hQ (by simp only[putsF,dstC,e9];rfl) ⟨_,rfl,rfl,(RL.news w2 [(cn:Int)] _ rfl _ _).more (by simp)⟩
  ·show StepR _ _ _ _ _ _ _ [6,10] [6,10] 11 _
   intro v S w2 HC HL HU HD Q hQ;obtain⟨s6,O6⟩:=Live.ow (HL 6 (by decide));obtain⟨A6,n6,c6,e6,_,_⟩:=OwL.sl O6.out;rw[e6]at s6 O6;obtain⟨g10,e10,s10,R10,Z10⟩:=Live.row (HL 10 (by decide));simp only[putsF,dstC,e6,e10];go_wp2_with fail
   have hdj:¬Fow (.slice A6 n6 c6) g10:=by have:=HD 10 (by decide) 6 (by decide) (by decide) g10 (by rw[s10]);rwa [s6]at this
   refine(Y8f w1.heap.size 4 1 1 (.slice A6 n6 c6) h1 (some ⟨g10,0,none⟩) [(cn:Int)] w2 O6.out HC.size rfl R10.out (fun _ ad ha=>by injection ha with ha;rw[←ha];exact hdj) (by decide) (by decide) (by decide) (by have:=Di.out.2.1;omega)).mono ?_
   rintro e w3 ⟨v2,rfl,hr2,hf2⟩;rw[Cf.out.2.1]at hr2;obtain⟨A,n,c,rfl,_,_⟩:=OwL.sl hr2;go_wp2_with fail
   exact Y2k hQ (by simp only[putsF,dstC,e6,e10];rfl) hr2 hf2 (fun q hq=>⟨6,by decide,rfl,by rw[s6];exact hq⟩) (fun h=>h)
  ·show StepR _ _ _ _ _ _ _ [] [] 12 _
   intro v S w2 HC HL HU HD Q hQ;simp only[putsF];go_wp2_with fail
   exact Y8q hQ rfl ⟨rfl,rfl⟩
  ·show StepR _ _ _ _ _ _ _ [12] [12] 13 _
   intro v S w2 HC HL HU HD Q hQ;have e12:=Live.pure (HL 12 (by decide));simp only[putsF,dstC,e12];have hbk:=Sj.out.ch HC (fun h=>h);have hc:=hbk.cell;have hc4:=hc 4;have hc5:=hc 5;have hc6:=hc 6;have hc7:=hc 7;have hgl:=hbk.lt;clear hc hbk;go_wp2_with fail
   exact Y8q hQ (by simp only[putsF,dstC,e12];rfl) ⟨rfl,rfl⟩
  ·show StepR _ _ _ _ _ _ _ [11,13] [11,13] 14 _
   intro v S w2 HC HL HU HD Q hQ;obtain⟨s11,O11⟩:=Live.ow (HL 11 (by decide));obtain⟨A11,n11,c11,e11,_,_⟩:=OwL.sl O11.out;rw[e11]at s11 O11;have e13:=Live.pure (HL 13 (by decide));simp only[putsF,dstC,e11,e13];go_wp2_with (at_builtin;refine Y5q w2 Y5i rfl (.tmp 21) (.tmp 23) rfl klBTy Tryd.underlying28 (by decide) w1.heap.size (.slice A11 n11 c11) h2 rfl O11.out w0.heap.size cA cn cc cl rfl Cq.out.1 ((Cq.out.2 w2 HC)) Xo.out HC.size ?_;intro v5 w5 hO5 hg5 hv5 hb5)
   rw[Cf.out.2.2.1]at hO5;obtain⟨A,n,c,rfl,_,_⟩:=OwL.sl hO5;exact Y2k hQ (by simp only[putsF,dstC,e11,e13];rfl) hO5 (fo_of (Ch.of_grown hg5 (fun _ h=>h)) (by rcases hv5 with e | e;exact .inl e;exact .inr ⟨_,e,Z00 _⟩)) (fun q hq=>⟨11,by decide,rfl,by rw[s11];exact hq⟩) (fun h=>h)
  ·show StepR _ _ _ _ _ _ _ [] [] 15 _
   intro v S w2 HC HL HU HD Q hQ;simp only[putsF];go_wp2_with fail
   exact Y8q hQ rfl ⟨rfl,rfl⟩
  ·show StepR _ _ _ _ _ _ _ [15] [15] 16 _
   intro v S w2 HC HL HU HD Q hQ;have e15:=Live.pure (HL 15 (by decide));simp only[putsF,dstC,e15];have hbk:=Sj.out.ch HC (fun h=>h);have hc:=hbk.cell;have hc4:=hc 4;have hc5:=hc 5;have hc6:=hc 6;have hc7:=hc 7;have hgl:=hbk.lt;clear hc hbk;go_wp2_with fail
   exact Y8q hQ (by simp only[putsF,dstC,e15];rfl) ⟨rfl,rfl⟩
  ·show StepR _ _ _ _ _ _ _ [16] [16] 17 _
   intro v S w2 HC HL HU HD Q hQ;have e16:=Live.pure (HL 16 (by decide));simp only[putsF,dstC,e16];go_wp2_with fail
   exact Y8q hQ (by simp only[putsF,dstC,e16];rfl) ⟨rfl,rfl⟩
  ·show StepR _ _ _ _ _ _ _ [17] [17] 18 _
   intro v S w2 HC HL HU HD Q hQ;have e17:=Live.pure (HL 17 (by decide));simp only[putsF,dstC,e17];go_wp2_with fail
   exact Y0p hQ (by simp only[putsF,dstC,e17];rfl) ⟨_,rfl,rfl,(RL.news w2 [(hn:Int)] _ rfl _ _).more (by simp)⟩
  ·show StepR _ _ _ _ _ _ _ [14,18] [14,18] 19 _
   intro v S w2 HC HL HU HD Q hQ;obtain⟨s14,O14⟩:=Live.ow (HL 14 (by decide));obtain⟨A14,n14,c14,e14,_,_⟩:=OwL.sl O14.out;rw[e14]at s14 O14;obtain⟨g18,e18,s18,R18,Z18⟩:=Live.row (HL 18 (by decide));simp only[putsF,dstC,e14,e18];go_wp2_with fail
   have hdj:¬Fow (.slice A14 n14 c14) g18:=by have:=HD 18 (by decide) 14 (by decide) (by decide) g18 (by rw[s18]);rwa [s14]at this
   refine(Y8f w1.heap.size 2 1 1 (.slice A14 n14 c14) h3 (some ⟨g18,0,none⟩) [(hn:Int)] w2 O14.out HC.size rfl R18.out (fun _ ad ha=>by injection ha with ha;rw[←ha];exact hdj) (by decide) (by decide) (by decide) (by have:=Di.out.2.2;omega)).mono ?_
   rintro e w3 ⟨v2,rfl,hr2,hf2⟩;rw[Cf.out.2.2.2]at hr2;obtain⟨A,n,c,rfl,_,_⟩:=OwL.sl hr2;go_wp2_with fail
   exact Y2k hQ (by simp only[putsF,dstC,e14,e18];rfl) hr2 hf2 (fun q hq=>⟨14,by decide,rfl,by rw[s14];exact hq⟩) (fun h=>h)
  ·show StepR _ _ _ _ _ _ _ [19] [19] 20 _
   intro v S w2 HC HL HU HD Q hQ;obtain⟨s19,O19⟩:=Live.ow (HL 19 (by decide));obtain⟨A19,n19,c19,e19,_,_⟩:=OwL.sl O19.out;rw[e19]at s19 O19;simp only[putsF,dstC,e19];go_wp2_with fail
   exact Y2k hQ (by simp only[putsF,dstC,e19];rfl) O19.out (Fo.refl) (fun q hq=>⟨19,by decide,rfl,by rw[s19];exact hq⟩) (fun h=>h)
  -- GEN1 }
  -- DEV}
  ·intro v S w2 HC HL HD
   obtain⟨s20,O20⟩:S 20=Fow (v 20)∧Bx (OwB w2 w1.heap.size 5 (v 20) h4):=Live.ow (HL 20 (by decide) (by decide)).1;obtain⟨A,n,c,e20,_,_⟩:=OwL.sl O20.out;rw[e20]at O20;have HBb:Bx (Below w1.heap.size w1 w2):=bx (HC.below (Z00 _) (fun _ _ h=>h));clear HL HD s20 HC;show Exit.then _ _ Exit.normal (putsF dstC v _ [20,19,18,17,16,15,14,13,12,11,10,9,8,7,6,5,4,3,2,1,0]) w2;simp only[putsF,dstC,e20,Act.put,Z06,Z05,Z04];go_wp2_with fail
   go_meet
   case rel=>exact⟨A,n,c,rfl,HBb,O20⟩
 case rest=>
 obtain⟨A5,n5,c5,rfl,hb5,ho5⟩:=hcut;obtain⟨hB,hhB⟩:∃hB,h4=hB:=⟨_,rfl⟩
 have Y2:Bx (hB=(beB 2 st++beB 2 lo++beB 4 (cn:Int)++cl)++beB 2 (hn:Int)):=bx (by
  have h:=Cf.out;rw[←hhB,←h.2.2.2,←h.2.2.1,←h.2.1,←h.1]
  simp)
 have hbl:hB.length≤5000:=by
  have:=Vu.out
  rw[Y2.out];simp only[Z09,beB_len];omega
 rw[hhB]at ho5;have hBw:Below w.heap.size w wc:=Zl.out.trans (hb5.out.mono Zl.out.size);have hown:∀k,Fow (.slice A5 n5 c5) k→w1.heap.size≤k∧k<wc.heap.size:=fun k e=>World.ownsRow.lt ho5.out k e;have h1s:=Zl.out.size;have H0:Bx (BkR w0 wc gk gm cs V (rowK mhnK P (hs.take 0)).1 w.heap.size (.slice A5 n5 c5) (hB++(rowK mhnK P (hs.take 0)).2)):=bx (by simp only[List.take_zero,rowK,Z14];exact⟨Xt.out.below hb5.out,OwL.low ho5.out h1s,⟨Yu.out,hBw.size⟩,fun k e e2=>by have:=(hown k e).1;have:=HMF.out k e2;omega⟩)
 have C0:Bx (Fo w (Mkf gk gm V) wc (BkF gk gm V (.slice A5 n5 c5))):=bx (Fo.new hBw (fun k e=>by
  rcases e with e | e
  ·exact .inl e
  ·exact .inr (Z08 h1s (hown k e).1)))
 have K0:Bx (Bk wc g 51 #[.int .i64 ac,.string ⟨nm.toArray⟩,.string ⟨ds.toArray⟩,.bool th,.int .i64 st,.int .i64 lo,.slice cA cn cc,.slice hA hn hc,.slice fA fn fc]):=bx (Yz.out.below hb5.out Yz.out.lt);obtain⟨CE,hCE⟩:∃CE:Array Value,#[.int .i64 ac,.string ⟨nm.toArray⟩,.string ⟨ds.toArray⟩,.bool th,.int .i64 st,.int .i64 lo,.slice cA cn cc,.slice hA hn hc,.slice fA fn fc]=CE:=⟨_,rfl⟩;rw[hCE]at K0;have Kz:Bx (CE[7]? = some (.slice hA hn hc)):=bx (by rw[←hCE];rfl);have J9:Bx (CE[8]? = some (.slice fA fn fc)):=bx (by rw[←hCE];rfl);clear hCE
 have N0:Bx (¬BkF gk gm V (.slice A5 n5 c5) g):=bx (fun e=>by
  rcases e with e | e
  ·exact Sd.out g e rfl
  ·have:=(hown g e).1
   have:=Yz.out.lt
   omega)
 have Kw:=bx hbl;have hc7:wc.cell? ⟨g,7,none⟩=some (.slice hA hn hc):=(K0.out.cell 7).trans Kz.out;clear hhB Cf Di Xo hbl ho5 hb5 hBw hown h1s Yz Xt Zl;go_step;go_wp2;clear hc7;have hhn:=Vu.out.2.2.2.2.1
 go_loopw [5,33] (fun bv iv wx=>∃(j:Nat) (Vj vj:Value),j≤hn∧vj=bv∧iv = .int .i64 (j:Int)∧Bx (BkR w0 wx gk gm cs Vj (rowK mhnK P (hs.take j)).1 w.heap.size vj (hB++(rowK mhnK P (hs.take j)).2))∧Bx (Fo w (Mkf gk gm V) wx (BkF gk gm Vj vj))∧Bx (Bk wx g 51 CE)∧Bx (¬BkF gk gm Vj vj g)) (fun _ iv _=>hn-(intOf iv).toNat)
 case atStart=>exact⟨0,V,_,by omega,rfl,rfl,H0,C0,K0,N0⟩
 case round=>
  clear H0 C0 K0 N0;obtain⟨j,Vj,vj,hj,rfl,rfl,HB,HC,HG,Tz⟩:=hrel;by_cases hjn:j<hn
  ·have hjI:(j:Int)<(hn:Int):=by omega
   obtain⟨ad,t,rfl,hlt,HT,q0,q1⟩:=(HHD.out.below HB.out.mkr.bel (Z00 _)).at_ hnCels (k:=j) (by rw[Vu.out.2.1];exact hjn);obtain⟨f,t,a,hx⟩:=t;have Vi:=bx HT.out;have p0:=q0 _ rfl;have p1:=q1 0 _ rfl;have p2:=q1 1 _ rfl;have p3:=q1 2 _ rfl;simp only[Z22,Nat.reduceAdd]at p1 p2 p3;unfold strQ at p3;clear q0 q1 HT hlt;have Wi:Bx (hx.length≤2000000):=bx (Cg.out.hs _ (Z16 Vi.out));have hlen:=Y3a P (hs.take j);have hnx:=Y7b mhnK P Vi.out;obtain⟨R,hR⟩:∃R,rowK mhnK P (hs.take j)=R:=⟨_,rfl⟩;rw[hR]at HB hlen hnx;have Zb:=bx hnx
   have Xy:Bx (R.1.length≤600000200∧(hB++R.2).length≤6000):=bx (by
    have:=We.out
    have:=Kw.out
    have:=Vu.out
    rw[Z09];rw[Z29]at hlen;omega)
   obtain⟨C,hCs⟩:∃C,wr.heap.size=C:=⟨_,rfl⟩;have Yi:=bx (Bk.newAt wr 81 #[.int .i64 f,.int .i64 t,.int .i64 a,.string ⟨hx.toArray⟩] hCs);have Lr:=bx (Y9z (Below.refl wr.heap.size wr) (Z00 _) (.cells #[.int .i64 f,.int .i64 t,.int .i64 a,.string ⟨hx.toArray⟩] 81));have Vc:Bx (¬BkF gk gm Vj vj C):=bx (fun e=>by have:=(HB.out.foot _ e).2;omega);have Ws:=bx hCs;clear hCs hlen hnx hR;go_upto_region 5 with(fail)
   rw[Ws.out];generalize wr.alloc (.cells #[.int .i64 f,.int .i64 t,.int .i64 a,.string ⟨hx.toArray⟩] 81)=wb at Yi Lr ⊢;have Zl:=bx (HB.out.below Lr.out);have Zt:=bx (HC.out.below Lr.out);have Pq:=bx (HG.out.below Lr.out HG.out.lt);have c3:wb.cell? ⟨C,3,none⟩=some (.string ⟨hx.toArray⟩):=(Yi.out.cell 3).trans rfl;clear p0 p1 p2 p3 Ws HB HC HG Lr
   go_upto_if 39 with(fail)
   go_cut [8] from 39 to 43 (fun av wx=>∃(Q:List Cst×Nat) (V3:Value),av = .int .i64 (Q.2:Int)∧Bx ((if hx=[] then (R.1,0) else pclK R.1 hx)=Q)∧Bx (BkR w0 wx gk gm cs V3 Q.1 w.heap.size vj (hB++R.2))∧Bx (Fo w (Mkf gk gm V) wx (BkF gk gm V3 vj))∧Bx (Bk wx g 51 CE)∧Bx (Bk wx C 81 #[.int .i64 f,.int .i64 t,.int .i64 a,.string ⟨hx.toArray⟩])∧Bx (¬BkF gk gm V3 vj g∧¬BkF gk gm V3 vj C))
   case first=>
    by_cases hnm:hx=[]
    ·have HE:Bx ((if hx=[] then (R.1,0) else pclK R.1 hx)=(R.1,0)):=bx (if_pos hnm)
     subst hnm;go_wp2
     go_meet
     case rel=>exact⟨(R.1,0),Vj,by simp,HE,Zl,Zt,Pq,Yi,bx ⟨Tz.out,Vc.out⟩⟩
    ·have hnE:(!hx.isEmpty)=true:=by cases hx with | nil=>exact absurd rfl hnm | cons a b=>rfl
     have HE:Bx ((if hx=[] then (R.1,0) else pclK R.1 hx)=pclK R.1 hx):=bx (if_neg hnm);have Sb:=bx (Y8b w0 wb gk gm cs Vj R.1 hx Zl.out.mkr Wi.out (by have:=Xy.out.1;omega));rw[hnE];clear hnE hnm;go_wp2_with (go_at_call 10;refine Sb.out.mono ?_;rintro e w3 ⟨V3,rfl,h3,h4⟩;obtain⟨r1,r2⟩:=Zl.out.on h3 h4;have Xv:=bx r1;have Yw:=bx (Zt.out.trans r2);have Td:=bx (Pq.out.ch r2.ch Tz.out);have Zo:=bx (Yi.out.ch r2.ch Vc.out);have Qy:Bx (¬BkF gk gm V3 vj g∧¬BkF gk gm V3 vj C):=bx ⟨r2.far Pq.out.lt Tz.out,r2.far Yi.out.lt Vc.out⟩;clear h3 h4 r1 r2)
     go_meet
     case rel=>exact⟨pclK R.1 hx,V3,rfl,HE,Xv,Yw,Td,Zo,Qy⟩
   case rest=>
    obtain⟨Q,V3,rfl,X7,Xv,Yw,Td,Zo,Qy⟩:=hcut
    have hQl:Q.1.length≤600000300:=by
     have h:=X3w R.1 ⟨f,t,a,hx⟩;unfold mhnK at h;dsimp only at h;rw[X7.out]at h
     have:=Xy.out.1
     omega
    obtain⟨ob,hob⟩:∃ob,(hB++R.2)++[f,t,a,(Q.2:Int)].flatMap (beB 2)=ob:=⟨_,rfl⟩;have Vp:=bx (Y8v w0 wc gk gm cs V3 Q.1 w.heap.size vj (hB++R.2) ob 2 4 [f,t,a,(Q.2:Int)] #[.int .i64 f,.int .i64 t,.int .i64 a,.int .i64 (Q.2:Int)] Xv.out rfl rfl (by decide) (by decide) (by decide) (by have:=Xy.out.2;omega) hob);have HE:Bx (rowK mhnK P (hs.take (j+1))=(Q.1,R.2++(beB 2 f++beB 2 t++beB 2 a++beB 2 (Q.2:Int)))∧hB++(R.2++(beB 2 f++beB 2 t++beB 2 a++beB 2 (Q.2:Int)))=ob):=bx ⟨by rw[Zb.out];unfold mhnK;dsimp only;rw[X7.out],by rw[←hob];simp⟩;have d0:wc.cell? ⟨C,0,none⟩=some (.int .i64 f):=(Zo.out.cell 0).trans rfl;have d1:wc.cell? ⟨C,1,none⟩=some (.int .i64 t):=(Zo.out.cell 1).trans rfl;have d2:wc.cell? ⟨C,2,none⟩=some (.int .i64 a):=(Zo.out.cell 2).trans rfl;clear hob hQl;go_step;go_wp2_with (refine Vp.out.mono ?_;rintro e w4 ⟨v4,rfl,h4,hc4⟩;have Yj:=bx h4;have Yg:=bx (Yw.out.trans hc4);have Lh:=bx (Td.out.ch hc4.ch Qy.out.1);have Lc:Bx (¬BkF gk gm V3 v4 g):=bx (hc4.far Td.out.lt Qy.out.1);clear h4 hc4)
    go_roundw
    case rel=>refine⟨j+1,V3,v4,by omega,rfl,by go_num,bx ?_,Yg,Lh,Lc⟩;rw[HE.out.1];show BkR w0 w4 gk gm cs V3 Q.1 w.heap.size v4 (hB++(R.2++(beB 2 f++beB 2 t++beB 2 a++beB 2 (Q.2:Int))));rw[HE.out.2];exact Yj.out
    case measure=>simp [intOf];omega
  ·obtain rfl:j=hn:=by omega
   have hjI:¬(j:Int)<(j:Int):=(by omega);obtain⟨R,hR⟩:∃R,rowK mhnK P hs=R:=⟨_,rfl⟩;have hF:Bx (BkR w0 wr gk gm cs Vj R.1 w.heap.size vj (hB++R.2)):=bx (by have:=HB.out;rwa [Y6p mhnK P (by rw[Vu.out.2.1];exact Z00 _),hR]at this);have hlen:=Y3a P hs;rw[hR]at hlen
   have Xy:Bx (R.1.length≤600000200∧(hB++R.2).length≤6000):=bx (by
    have:=We.out
    have:=Kw.out
    have:=Vu.out
    rw[Z09];omega)
   have Cb:=bx hR;have c8:wr.cell? ⟨g,8,none⟩=some (.slice fA fn fc):=(HG.out.cell 8).trans J9.out;clear HB hlen hR
   have Lq:Bx (mcdK P (MtE.p ⟨ac,nm,ds,th,st,lo,⟨cA,cn,cc,cl⟩,⟨hA,j,hc,hs⟩,⟨fA,fn,fc,fs⟩⟩)=if fs.map FrE.p=[] then (R.1,hB++R.2++beB 2 0) else
     ((rowK mfrK (ptxK R.1 smtN).1 (fs.map FrE.p)).1,hB++R.2++beB 2 1++beB 2 ((ptxK R.1 smtN).2:Int)++beB 4 ((beB 2 (fn:Int)++(rowK mfrK (ptxK R.1 smtN).1 (fs.map FrE.p)).2).length:Int)++(beB 2 (fn:Int)++(rowK mfrK (ptxK R.1 smtN).1 (fs.map FrE.p)).2))):=bx (by
    unfold mcdK;dsimp only[MtE.p];rw[Cb.out,Y2.out,Vu.out.1,Vu.out.2.1,Z17,Vu.out.2.2.1];simp only[List.append_assoc])
   by_cases hf0:fn=0
   ·subst hf0
    have hfe:fs=[]:=Z36 Vu.out.2.2.1;have Vp:=bx (Y8v w0 wr gk gm cs Vj R.1 w.heap.size vj (hB++R.2) (hB++R.2++beB 2 0) 2 1 [0] #[.int .i64 0] hF.out rfl rfl (by decide) (by decide) (by decide) (by have:=Xy.out.2;omega) (by simp));have Gt:Bx (mcdK P (MtE.p ⟨ac,nm,ds,th,st,lo,⟨cA,cn,cc,cl⟩,⟨hA,j,hc,hs⟩,⟨fA,0,fc,fs⟩⟩)=(R.1,hB++R.2++beB 2 0)):=bx (by rw[Lq.out,hfe];rfl);clear hfe;go_wp2_with (refine Vp.out.mono ?_;rintro e w4 ⟨v4,rfl,h4,hc4⟩;have Yj:=bx h4;have Yg:=bx (HC.out.trans hc4);clear h4 hc4)
    go_ret;rw[Gt.out];exact⟨Vj,v4,rfl,Yj.out,Yg.out⟩
   ·have hf0I:((fn:Int)==0)=false:=by simpa using hf0
    have hfe:¬fs.map FrE.p=[]:=fun e=>hf0 (by have:=Vu.out.2.2.1;rw[List.map_eq_nil_iff]at e;rw[e]at this;exact this.symm);obtain⟨T,hT⟩:∃T,ptxK R.1 smtN=T:=⟨_,rfl⟩;have hTl:=Y8t R.1 smtN;rw[hT]at hTl;obtain⟨G,hG⟩:∃G,rowK mfrK T.1 (fs.map FrE.p)=G:=⟨_,rfl⟩;obtain⟨oc,hoc⟩:∃oc,(hB++R.2)++[1,(T.2:Int)].flatMap (beB 2)=oc:=⟨_,rfl⟩;obtain⟨fb,hfb⟩:∃fb,beB 2 (fn:Int)++G.2=fb:=⟨_,rfl⟩
    have hGl:=Y3s T.1 (fs.map FrE.p) (fun f hf=>by
     obtain⟨y,hy,rfl⟩:=List.mem_map.1 hf
     exact(Cg.out.fs y hy).fs)
    rw[hG,Z17,Vu.out.2.2.1]at hGl
    have Kd:Bx (fb.length≤110000∧oc.length≤6100):=bx (by
     have:=Vu.out
     have:=Xy.out.2
     refine⟨by rw[←hfb,Z09,beB_len];omega,?_⟩;rw[←hoc,Z09];simp only[Z27,Z37,Z14,Z09,beB_len];simp only[Z09]at this;omega)
    obtain⟨od,hod⟩:∃od,oc++[(fb.length:Int)].flatMap (beB 4)=od:=⟨_,rfl⟩
    have J8:Bx ((od.length+fb.length)*1≤140737488355328):=bx (by
     have:=Kd.out
     rw[←hod,Z09];simp only[Z27,Z37,Z14,beB_len];omega)
    have Gt:Bx (mcdK P (MtE.p ⟨ac,nm,ds,th,st,lo,⟨cA,cn,cc,cl⟩,⟨hA,j,hc,hs⟩,⟨fA,fn,fc,fs⟩⟩)=(G.1,od++fb)):=bx (by
     rw[Lq.out,if_neg hfe,hT,hG,hfb,←hod,←hoc]
     simp)
    have Kl:=bx (Y9k w0 wr gk gm cs Vj R.1 smtN hF.out.mkr (by decide) (by have:=Xy.out.1;omega));rw[hT]at Kl;have T5:=bx hoc;have L9:=bx hfb;have T0:=bx hod;have D5:=bx hG;have S9:Bx (T.1.length≤600000300):=bx (by have:=Xy.out.1;omega);clear hfe hT hTl hG hoc hfb hGl hod hf0 Lq;have c8:wr.cell? ⟨g,8,none⟩=some (.slice fA fn fc):=(HG.out.cell 8).trans J9.out
    go_upto_region 13 with(first
     | (go_at_call 11;refine Kl.out.mono ?_;rintro e w3 ⟨V3,rfl,h3,h4⟩;obtain⟨r1,r2⟩:=hF.out.on h3 h4;have Xv:=bx r1;have Yw:=bx (HC.out.trans r2);have Td:=bx (HG.out.ch r2.ch Tz.out);have Qy:Bx (¬BkF gk gm V3 vj g):=bx (r2.far HG.out.lt Tz.out);have Vp:=bx (Y8v w0 w3 gk gm cs V3 T.1 w.heap.size vj (hB++R.2) oc 2 2 [1,(T.2:Int)] #[.int .i64 1,.int .i64 (T.2:Int)] r1 rfl rfl (by decide) (by decide) (by decide) (by have:=Xy.out.2;omega) T5.out);clear h3 h4 r1 r2)
     | (go_at_call 12;refine Vp.out.mono ?_;rintro e w4 ⟨v4,rfl,h4,hc4⟩;have Yj:=bx h4;have Yg:=bx (Yw.out.trans hc4);have Lh:=bx (Td.out.ch hc4.ch Qy.out);clear h4 hc4))
    have c8:w4.cell? ⟨g,8,none⟩=some (.slice fA fn fc):=(Lh.out.cell 8).trans J9.out;have X6:=bx (Y0f w0 w4 gk gm cs V3 T.1 fA fn fc fs Yj.out.mkr Vu.out.2.2.1 HFD.out Cg.out.fs (by have:=S9.out;omega) Vu.out.2.2.2.2.2);rw[D5.out,L9.out]at X6;go_upto_region 14 with(go_at_call 22;refine X6.out.mono ?_;rintro e w5 ⟨V5,v5,rfl,h5,hf5⟩)
    clear c8;obtain⟨A6,n6,c6,hv6,hn6,_⟩:=OwL.sl h5.ow;subst hv6;have hn6:=hn6.out;have hlo4:=Yj.out.lo;have hov:OwB w5 w.heap.size 5 v4 oc:=OwL.ch Yj.out.ow hf5.ch (fun k e=>Yj.out.ne k e);have hk4:∀k,Fow v4 k→k<w4.heap.size:=fun k e=>(World.ownsRow.lt Yj.out.ow k e).2;have hnv:∀k,Fow v4 k→¬BkF gk gm V5 (.slice A6 n6 c6) k:=fun k e=>hf5.far (hk4 k e) (Yj.out.ne k e);have hbk:BkR w0 w5 gk gm cs V5 G.1 w.heap.size v4 oc:=⟨h5.mkr,hov,⟨hlo4.1,Z08 hlo4.2 hf5.ch.size⟩,fun k e e2=>hnv k e (.inl e2)⟩;have hfo:Fo w (Mkf gk gm V) w5 (BkF gk gm V5 v4):=Yg.out.trans ((hf5.less (fun k e => .inl e)).or (Fow v4));have HPC:=bx (Y8v w0 w5 gk gm cs V5 G.1 w.heap.size v4 oc od 4 1 [(n6:Int)] #[.int .i64 (n6:Int)] hbk rfl rfl (by decide) (by decide) (by decide) (by have:=Kd.out.2;omega) (by rw[hn6];exact T0.out));have Ri:=bx hfo;have Nd:=bx hnv;have Kv:=bx h5.ow;have U2:=bx h5.ne;have Mo:=bx hn6;clear h5 hf5 hn6 hlo4 hov hk4 hnv hbk hfo
    go_wp2_with (first
     | (go_at_call 12;refine HPC.out.mono ?_;rintro e w6 ⟨v6,rfl,h6,hc6⟩;have Yl:=bx h6;have Wk:=bx (Ri.out.trans hc6);have J7:=bx (OwL.ch Kv.out hc6.ch (fun k e e2=>by
       rcases e2 with e2 | e2
       ·exact U2.out k e e2
       ·exact Nd.out k e2 (.inr e)));clear h6 hc6)
     | (at_builtin;refine Y9l w6 Y5i rfl (.tmp 75) (.tmp 76) rfl klBTy (by decide) w.heap.size v6 od rfl Yl.out.ow w6.heap.size A6 n6 c6 fb rfl Mo.out.symm (OwL.rl J7.out) J8.out Yl.out.lo.2 ?_;intro v7 w7 hO7 hg7 hv7 hb7))
    obtain⟨r1,r2⟩:=Yl.out.put hO7 (fo_of (Ch.of_grown hg7 (fun _ h=>h)) (by
     rcases hv7 with e | e
     ·exact .inl e
     ·exact .inr ⟨_,e,Z00 _⟩))
    have Xd:=bx r1;have Wx:=bx (Wk.out.trans r2);clear r1 r2 hO7 hg7 hv7 hb7;go_wp2;go_ret;rw[Gt.out];exact⟨V5,v7,rfl,Xd.out,Wx.out⟩
end Go.Proofs.YtpmfiegfbmamiaaDoor
