/- Contract: image.Holds. -/
import Derived.Test.YtpmfiegfbmamiaaDoorPm5
namespace Go.Proofs.YtpmfiegfbmamiaaDoor
set_option maxRecDepth 100000
set_option maxHeartbeats 8000000
open Go.RowKit
theorem Y9p:(Tryd.prog.info? 34).map (·.size)=some 10:=by kernel_rfl
theorem Y6m (x:ImE):(imC x).size=10:=rfl
theorem Bk.im0 {w:World} {B:Nat} {t:TypeId} {cs:Array Value} {x:ImE} (h:Bk w B t cs) (hc:cs=imC x):w.cell? ⟨B,0,none⟩=some (.int .i64 x.minor):=by rw[h.cell 0,hc];rfl
theorem Bk.im1 {w:World} {B:Nat} {t:TypeId} {cs:Array Value} {x:ImE} (h:Bk w B t cs) (hc:cs=imC x):w.cell? ⟨B,1,none⟩=some (.int .i64 x.major):=by rw[h.cell 1,hc];rfl
theorem Bk.im2 {w:World} {B:Nat} {t:TypeId} {cs:Array Value} {x:ImE} (h:Bk w B t cs) (hc:cs=imC x):w.cell? ⟨B,2,none⟩=some (.slice x.pA x.pn x.pc):=by rw[h.cell 2,hc];rfl
theorem Bk.im3 {w:World} {B:Nat} {t:TypeId} {cs:Array Value} {x:ImE} (h:Bk w B t cs) (hc:cs=imC x):w.cell? ⟨B,3,none⟩=some (.int .i64 x.access):=by rw[h.cell 3,hc];rfl
theorem Bk.im4 {w:World} {B:Nat} {t:TypeId} {cs:Array Value} {x:ImE} (h:Bk w B t cs) (hc:cs=imC x):w.cell? ⟨B,4,none⟩=some (.int .i64 x.this):=by rw[h.cell 4,hc];rfl
theorem Bk.im5 {w:World} {B:Nat} {t:TypeId} {cs:Array Value} {x:ImE} (h:Bk w B t cs) (hc:cs=imC x):w.cell? ⟨B,5,none⟩=some (.int .i64 x.super):=by rw[h.cell 5,hc];rfl
theorem Bk.im6 {w:World} {B:Nat} {t:TypeId} {cs:Array Value} {x:ImE} (h:Bk w B t cs) (hc:cs=imC x):w.cell? ⟨B,6,none⟩=some (.slice x.iA x.i_n x.ic):=by rw[h.cell 6,hc];rfl
theorem Bk.im7 {w:World} {B:Nat} {t:TypeId} {cs:Array Value} {x:ImE} (h:Bk w B t cs) (hc:cs=imC x):w.cell? ⟨B,7,none⟩=some (.slice x.fA x.fn x.fc):=by rw[h.cell 7,hc];rfl
theorem Bk.im8 {w:World} {B:Nat} {t:TypeId} {cs:Array Value} {x:ImE} (h:Bk w B t cs) (hc:cs=imC x):w.cell? ⟨B,8,none⟩=some (.slice x.mA x.mn x.mc):=by rw[h.cell 8,hc];rfl
theorem Bk.im9 {w:World} {B:Nat} {t:TypeId} {cs:Array Value} {x:ImE} (h:Bk w B t cs) (hc:cs=imC x):w.cell? ⟨B,9,none⟩=some (.slice x.aA x.an x.ac):=by rw[h.cell 9,hc];rfl
theorem RIm.up {w w':World} {x:ImE} (h:RIm w w.heap.size x) (hb:Below w.heap.size w w'):RIm w' w'.heap.size x:=(h.below hb (Z00 _)).more hb.size
theorem X1t (x:ImE) (q1 q2 q3 q4 q5 q6 q7 q8 q9 q0:Bool) (h1:[x.minor,x.access].all u2P=q1) (h2:decide (45≤x.major∧x.major≤52)=q2) (h3:poolOk x.pool=q3) (h4:decide (x.i_n≤64)=q4) (hl:x.ifs.length=x.i_n) (h0:x.ifs.all (fun i=>decide (tagP x.pool i=7))=q0)
  (h5:decide (tagP x.pool x.this=7)=q5) (h6:decide (x.super=0∨tagP x.pool x.super=7)=q6) (h7:memsOk x.pool (x.fs.map MmE.p)=q7) (h8:memsOk x.pool (x.ms.map MmE.p)=q8) (h9:attsOk x.pool (x.as_.map AtE.p)=q9) :
  holdsP x.p=(q1&&q2&&q3&&q4&&q0&&q5&&q6&&q7&&q8&&q9):=by
 show (headOk x.p&&rightsP x.pool&&x.ifs.all (fun i=>decide (tagP x.pool i=7))&&decide (tagP x.pool x.this=7)&&decide (x.super=0∨tagP x.pool x.super=7)&&memsOk x.pool (x.fs.map MmE.p)&&memsOk x.pool (x.ms.map MmE.p)&&attsOk x.pool (x.as_.map AtE.p))=_;have hh:(headOk x.p&&rightsP x.pool)=(q1&&q2&&q3&&q4):=by rw[←h1,←h2,←h3,←h4];show ((u2P x.minor&&decide (45≤x.major∧x.major≤52)&&decide (1≤x.pool.length∧x.pool.length≤1024)&&u2P x.access&&decide (x.ifs.length≤64))&&rightsP x.pool)=(([x.minor,x.access].all u2P&&decide (45≤x.major∧x.major≤52))&&(decide (1≤x.pool.length∧x.pool.length≤1024)&&rightsP x.pool)&&decide (x.i_n≤64));rw[hl];simp only[List.all_cons,List.all_nil,Bool.and_true];generalize u2P x.minor=a;generalize u2P x.access=b;generalize decide (45≤x.major∧x.major≤52)=c;generalize decide (1≤x.pool.length∧x.pool.length≤1024)=d;generalize decide (x.i_n≤64)=e;generalize rightsP x.pool=f;cases a <;> cases b <;> cases c <;> cases d <;> cases e <;> cases f <;> rfl
 rw[hh,h0,h5,h6,h7,h8,h9]
theorem Y1t (x:ImE) (w:World) (hx:RIm w w.heap.size x) (hT:∀c∈x.pool,(-9223372036854775808≤c.tag∧c.tag≤9223372036854775807)∧c.text.length≤2000000) :
  Calls Tryd.prog 15 #[.agg (imC x)] w fun e w'=>e = .returned (.bool (holdsP x.p))∧Below w.heap.size w w':=by
 have HX:=bx hx;have HT:=bx hT;have hpb:(x.pn:Int)≤9223372036854775807:=by have:=hx.pl;omega
 have hib:(x.i_n:Int)≤9223372036854775807:=by have:=hx.il;omega
 have hfb:(x.fn:Int)≤9223372036854775807:=by have:=hx.fl;omega
 have hmb:(x.mn:Int)≤9223372036854775807:=by have:=hx.ml;omega
 have hab:(x.an:Int)≤9223372036854775807:=by have:=hx.al;omega
 obtain⟨R,hR⟩:∃R,holdsP x.p=R:=⟨_,rfl⟩;obtain⟨cs,hcs⟩:∃cs,cs=imC x:=⟨_,rfl⟩;rw[hR,←hcs];have Yt:=bx hcs;obtain⟨q1,hq1⟩:∃q,[x.minor,x.access].all u2P=q:=⟨_,rfl⟩;obtain⟨q2,hq2⟩:∃q,decide (45≤x.major∧x.major≤52)=q:=⟨_,rfl⟩;obtain⟨q3,hq3⟩:∃q,poolOk x.pool=q:=⟨_,rfl⟩;obtain⟨q4,hq4⟩:∃q,decide (x.i_n≤64)=q:=⟨_,rfl⟩;obtain⟨q0,hq0⟩:∃q,x.ifs.all (fun i=>decide (tagP x.pool i=7))=q:=⟨_,rfl⟩;obtain⟨q5,hq5⟩:∃q,decide (tagP x.pool x.this=7)=q:=⟨_,rfl⟩;obtain⟨q6,hq6⟩:∃q,decide (tagP x.pool x.super=7)=q:=⟨_,rfl⟩;obtain⟨s6,hs6⟩:∃q,decide (x.super=0∨tagP x.pool x.super=7)=q:=⟨_,rfl⟩;obtain⟨q7,hq7⟩:∃q,memsOk x.pool (x.fs.map MmE.p)=q:=⟨_,rfl⟩;obtain⟨q8,hq8⟩:∃q,memsOk x.pool (x.ms.map MmE.p)=q:=⟨_,rfl⟩;obtain⟨q9,hq9⟩:∃q,attsOk x.pool (x.as_.map AtE.p)=q:=⟨_,rfl⟩;have Qp:Bx (R=(q1&&q2&&q3&&q4&&q0&&q5&&s6&&q7&&q8&&q9)):=bx (by rw[←hR];exact X1t x q1 q2 q3 q4 q5 s6 q7 q8 q9 q0 hq1 hq2 hq3 hq4 hx.il.1 hq0 hq5 hs6 hq7 hq8 hq9);have HU:=bx hq1;have Xq:=bx hq2;have Po:=bx hq3;have Jj:=bx hq4;have Xm:=bx hq0;have Lf:=bx hq5;have Nc:=bx hq6;have Xx:=bx hs6;have Le:=bx hq7;have Ld:=bx hq8;have Tb:=bx hq9;obtain⟨B,hB⟩:∃B,w.heap.size=B:=⟨_,rfl⟩;have Yi:=bx (Bk.newAt w 34 cs hB);have Qq:=bx (Y9z (Below.refl w.heap.size w) (Z00 _) (.cells cs 34));have HB:=bx hB;clear hx hT hR hcs hq1 hq2 hq3 hq4 hq0 hq5 hq6 hs6 hq7 hq8 hq9 hB
 go_enter Tryd.func15,Tryd.ntmps15
 go_upto_region 1 with(fail)
 rw[HB.out];generalize w.alloc (.cells cs 34)=wb at Yi Qq ⊢;have b0:=Yi.out.im0 Yt.out;have b2:=Yi.out.im2 Yt.out;have b3:=Yi.out.im3 Yt.out;generalize hwc:wb.alloc (.cells #[.int .i64 x.minor,.int .i64 x.access] 3)=wc;have Sh:=bx hwc;have Vm:Bx (Bk wc B 34 cs):=bx (by rw[←hwc];exact Yi.out.alloc _);have Xj:Bx (Below w.heap.size w wc):=bx (by rw[←hwc];exact Y9z Qq.out (Z00 _) _);have Qi:Bx (RL iV wc wc.heap.size (some ⟨wb.heap.size,0,none⟩) [x.minor,x.access]):=bx (by rw[←hwc];exact RL.top (RL.news wb [x.minor,x.access] _ rfl _ _));have Nb:=bx (HX.out.up Xj.out);have b1:=Vm.out.im1 Yt.out;clear hwc;cases q1 with
 | false=>
  have HN:Bx (R=false):=bx (by rw[Qp.out];simp)
  go_wp2_with (first
   | (go_at_call 32;rw[Sh.out];refine(Y8z _ 2 2 [x.minor,x.access] wc rfl (by decide) Qi.out).mono ?_;rintro e w' ⟨rfl,rfl⟩;rw[HU.out])
   | (go_at_call 33;refine(Y7z _ x.pn _ x.pool wc HX.out.pl.1 hpb Nb.out.pool HT.out).mono ?_;rintro e w5 ⟨rfl,hb5⟩;rw[Po.out];have Za:Bx (Below w.heap.size w w5):=bx (Xj.out.trans (hb5.mono Xj.out.size));have Ya:=bx (Nb.out.up hb5);have Zm:=bx (Vm.out.below hb5 Vm.out.lt);have f6:=Zm.out.im6 Yt.out;clear hb5))
  go_ret;exact⟨by rw[HN.out];rfl,Xj.out⟩
 | true=>
  by_cases m1:x.major<45
  ·obtain rfl:q2=false:=by rw[←Xq.out];exact Z48 (by omega)
   have HN:Bx (R=false):=bx (by rw[Qp.out];simp)
   go_wp2_with (first
   | (go_at_call 32;rw[Sh.out];refine(Y8z _ 2 2 [x.minor,x.access] wc rfl (by decide) Qi.out).mono ?_;rintro e w' ⟨rfl,rfl⟩;rw[HU.out])
   | (go_at_call 33;refine(Y7z _ x.pn _ x.pool wc HX.out.pl.1 hpb Nb.out.pool HT.out).mono ?_;rintro e w5 ⟨rfl,hb5⟩;rw[Po.out];have Za:Bx (Below w.heap.size w w5):=bx (Xj.out.trans (hb5.mono Xj.out.size));have Ya:=bx (Nb.out.up hb5);have Zm:=bx (Vm.out.below hb5 Vm.out.lt);have f6:=Zm.out.im6 Yt.out;clear hb5))
   go_ret;exact⟨by rw[HN.out];rfl,Xj.out⟩
  by_cases m2:52<x.major
  ·obtain rfl:q2=false:=by rw[←Xq.out];exact Z48 (by omega)
   have HN:Bx (R=false):=bx (by rw[Qp.out];simp)
   go_wp2_with (first
   | (go_at_call 32;rw[Sh.out];refine(Y8z _ 2 2 [x.minor,x.access] wc rfl (by decide) Qi.out).mono ?_;rintro e w' ⟨rfl,rfl⟩;rw[HU.out])
   | (go_at_call 33;refine(Y7z _ x.pn _ x.pool wc HX.out.pl.1 hpb Nb.out.pool HT.out).mono ?_;rintro e w5 ⟨rfl,hb5⟩;rw[Po.out];have Za:Bx (Below w.heap.size w w5):=bx (Xj.out.trans (hb5.mono Xj.out.size));have Ya:=bx (Nb.out.up hb5);have Zm:=bx (Vm.out.below hb5 Vm.out.lt);have f6:=Zm.out.im6 Yt.out;clear hb5))
   go_ret;exact⟨by rw[HN.out];rfl,Xj.out⟩
  cases q3 with
  | false=>
   have HN:Bx (R=false):=bx (by rw[Qp.out];simp)
   go_wp2_with (first
   | (go_at_call 32;rw[Sh.out];refine(Y8z _ 2 2 [x.minor,x.access] wc rfl (by decide) Qi.out).mono ?_;rintro e w' ⟨rfl,rfl⟩;rw[HU.out])
   | (go_at_call 33;refine(Y7z _ x.pn _ x.pool wc HX.out.pl.1 hpb Nb.out.pool HT.out).mono ?_;rintro e w5 ⟨rfl,hb5⟩;rw[Po.out];have Za:Bx (Below w.heap.size w w5):=bx (Xj.out.trans (hb5.mono Xj.out.size));have Ya:=bx (Nb.out.up hb5);have Zm:=bx (Vm.out.below hb5 Vm.out.lt);have f6:=Zm.out.im6 Yt.out;clear hb5))
   go_ret;exact⟨by rw[HN.out];rfl,Za.out⟩
  | true=>
   by_cases h64:x.i_n≤64
   ·have h64I:¬(64:Int)<(x.i_n:Int):=by omega
    have Sf:Bx (q2=true∧q4=true):=bx ⟨by rw[←Xq.out];exact Z47 (by omega),by rw[←Jj.out];exact Z47 h64⟩
    go_upto_region 4 with(first
   | (go_at_call 32;rw[Sh.out];refine(Y8z _ 2 2 [x.minor,x.access] wc rfl (by decide) Qi.out).mono ?_;rintro e w' ⟨rfl,rfl⟩;rw[HU.out])
   | (go_at_call 33;refine(Y7z _ x.pn _ x.pool wc HX.out.pl.1 hpb Nb.out.pool HT.out).mono ?_;rintro e w5 ⟨rfl,hb5⟩;rw[Po.out];have Za:Bx (Below w.heap.size w w5):=bx (Xj.out.trans (hb5.mono Xj.out.size));have Ya:=bx (Nb.out.up hb5);have Zm:=bx (Vm.out.below hb5 Vm.out.lt);have f6:=Zm.out.im6 Yt.out;clear hb5))
    clear b0 b1 b2 b3;have Ms:Bx ((x.ifs.take 0).all (fun i=>decide (tagP x.pool i=7))=true):=bx rfl;have f4:=Zm.out.im4 Yt.out;have f5:=Zm.out.im5 Yt.out;have f7:=Zm.out.im7 Yt.out;go_wp2
    go_loop [39] (fun iv=>∃k:Nat,k≤x.i_n∧iv = .int .i64 (k:Int)∧Bx ((x.ifs.take k).all (fun i=>decide (tagP x.pool i=7))=true)) (fun i=>x.i_n-(intOf i).toNat)
    case atStart=>exact⟨0,by omega,rfl,Ms⟩
    case round=>
     clear Ms;obtain⟨k,hk,rfl,HA⟩:=hrel;by_cases hkn:k<x.i_n
     ·have hkI:(k:Int)<(x.i_n:Int):=by omega
      obtain⟨ad,y,hAd,_,hy,p0⟩:=RL.num Ya.out.ifs (k:=k) (by rw[HX.out.il.1];exact hkn);have HY:=bx hy.out;rw[hAd]at f6 ⊢;clear hy hAd;cases hq:decide (tagP x.pool y=7) with
      | false=>
       have HN:Bx (R=false):=bx (by
        have e0:q0=false:=by rw[←Xm.out];exact(List.all_eq_false).2 ⟨y,Z16 HY.out,by simpa using hq⟩
        rw[Qp.out,e0];simp)
       have R6:=bx hq;clear hq;go_wp2_with (go_at_call 34;refine(Y9g _ x.pn _ x.pool _ 7 w5 HX.out.pl.1 hpb (by decide) Ya.out.pool).mono ?_;rintro e w' ⟨rfl,rfl⟩;rw[R6.out])
       go_ret;exact⟨by rw[HN.out];rfl,Za.out⟩
      | true=>
       have Rj:=bx (Y2y HA.out HY.out hq);have R6:=bx hq;clear hq;go_wp2_with (go_at_call 34;refine(Y9g _ x.pn _ x.pool _ 7 w5 HX.out.pl.1 hpb (by decide) Ya.out.pool).mono ?_;rintro e w' ⟨rfl,rfl⟩;rw[R6.out])
       go_round
       case rel=>exact⟨k+1,by omega,by go_num,Rj⟩
       case measure=>simp [intOf];omega
     ·obtain rfl:x.i_n=k:=by omega
      have hkI:¬(x.i_n:Int)<(x.i_n:Int):=(by omega);obtain rfl:q0=true:=by rw[←Xm.out];exact Y1g HA.out HX.out.il.1
      cases q5 with
      | false=>
       have HN:Bx (R=false):=bx (by rw[Qp.out,Sf.out.1,Sf.out.2];simp)
       go_wp2_with (first
   | (go_at_call 34;refine(Y9g _ x.pn _ x.pool _ 7 w5 HX.out.pl.1 hpb (by decide) Ya.out.pool).mono ?_;rintro e w' ⟨rfl,rfl⟩;first | rw[Lf.out] | rw[Nc.out])
   | (go_at_call 36;refine(Y9o _ x.pn _ x.pool _ x.an _ x.as_ w7 HX.out.pl.1 hpb Vq.out.pool HX.out.al.1 hab Vq.out.as_).mono ?_;rintro e w8 ⟨rfl,hb8⟩;rw[Tb.out];have Vk:Bx (Below w.heap.size w w8):=bx (Xh.out.trans (hb8.mono Xh.out.size));clear hb8)
   | (have hz:=Yl.out;clear hz;go_at_call 35;refine(Y9q _ x.pn _ x.pool _ x.mn _ x.ms w6 HX.out.pl.1 hpb Xr.out.pool HX.out.ml.1 hmb Xr.out.ms).mono ?_;rintro e w7 ⟨rfl,hb7⟩;rw[Ld.out];have Xh:Bx (Below w.heap.size w w7):=bx (Yl.out.trans (hb7.mono Yl.out.size));have Vq:=bx (Xr.out.up hb7);have g9:=(Zf.out.below hb7 Zf.out.lt).im9 Yt.out;clear hb7)
   | (go_at_call 35;refine(Y9q _ x.pn _ x.pool _ x.fn _ x.fs w5 HX.out.pl.1 hpb Ya.out.pool HX.out.fl.1 hfb Ya.out.fs).mono ?_;rintro e w6 ⟨rfl,hb6⟩;rw[Le.out];have Yl:Bx (Below w.heap.size w w6):=bx (Za.out.trans (hb6.mono Za.out.size));have Xr:=bx (Ya.out.up hb6);have Zf:=bx (Zm.out.below hb6 Zm.out.lt);have g8:=Zf.out.im8 Yt.out;clear hb6))
       go_ret;exact⟨by rw[HN.out];rfl,Za.out⟩
      | true=>
       by_cases hs0:x.super=0
       ·obtain rfl:s6=true:=by rw[←Xx.out];exact Z47 (Or.inl hs0)
        cases q7 with
        | false=>
         have HN:Bx (R=false):=bx (by rw[Qp.out,Sf.out.1,Sf.out.2];simp)
         go_wp2_with (first
   | (go_at_call 34;refine(Y9g _ x.pn _ x.pool _ 7 w5 HX.out.pl.1 hpb (by decide) Ya.out.pool).mono ?_;rintro e w' ⟨rfl,rfl⟩;first | rw[Lf.out] | rw[Nc.out])
   | (go_at_call 36;refine(Y9o _ x.pn _ x.pool _ x.an _ x.as_ w7 HX.out.pl.1 hpb Vq.out.pool HX.out.al.1 hab Vq.out.as_).mono ?_;rintro e w8 ⟨rfl,hb8⟩;rw[Tb.out];have Vk:Bx (Below w.heap.size w w8):=bx (Xh.out.trans (hb8.mono Xh.out.size));clear hb8)
   | (have hz:=Yl.out;clear hz;go_at_call 35;refine(Y9q _ x.pn _ x.pool _ x.mn _ x.ms w6 HX.out.pl.1 hpb Xr.out.pool HX.out.ml.1 hmb Xr.out.ms).mono ?_;rintro e w7 ⟨rfl,hb7⟩;rw[Ld.out];have Xh:Bx (Below w.heap.size w w7):=bx (Yl.out.trans (hb7.mono Yl.out.size));have Vq:=bx (Xr.out.up hb7);have g9:=(Zf.out.below hb7 Zf.out.lt).im9 Yt.out;clear hb7)
   | (go_at_call 35;refine(Y9q _ x.pn _ x.pool _ x.fn _ x.fs w5 HX.out.pl.1 hpb Ya.out.pool HX.out.fl.1 hfb Ya.out.fs).mono ?_;rintro e w6 ⟨rfl,hb6⟩;rw[Le.out];have Yl:Bx (Below w.heap.size w w6):=bx (Za.out.trans (hb6.mono Za.out.size));have Xr:=bx (Ya.out.up hb6);have Zf:=bx (Zm.out.below hb6 Zm.out.lt);have g8:=Zf.out.im8 Yt.out;clear hb6))
         go_ret;exact⟨by rw[HN.out];rfl,Yl.out⟩
        | true=>
         cases q8 with
         | false=>
          have HN:Bx (R=false):=bx (by rw[Qp.out,Sf.out.1,Sf.out.2];simp)
          go_wp2_with (first
   | (go_at_call 34;refine(Y9g _ x.pn _ x.pool _ 7 w5 HX.out.pl.1 hpb (by decide) Ya.out.pool).mono ?_;rintro e w' ⟨rfl,rfl⟩;first | rw[Lf.out] | rw[Nc.out])
   | (go_at_call 36;refine(Y9o _ x.pn _ x.pool _ x.an _ x.as_ w7 HX.out.pl.1 hpb Vq.out.pool HX.out.al.1 hab Vq.out.as_).mono ?_;rintro e w8 ⟨rfl,hb8⟩;rw[Tb.out];have Vk:Bx (Below w.heap.size w w8):=bx (Xh.out.trans (hb8.mono Xh.out.size));clear hb8)
   | (have hz:=Yl.out;clear hz;go_at_call 35;refine(Y9q _ x.pn _ x.pool _ x.mn _ x.ms w6 HX.out.pl.1 hpb Xr.out.pool HX.out.ml.1 hmb Xr.out.ms).mono ?_;rintro e w7 ⟨rfl,hb7⟩;rw[Ld.out];have Xh:Bx (Below w.heap.size w w7):=bx (Yl.out.trans (hb7.mono Yl.out.size));have Vq:=bx (Xr.out.up hb7);have g9:=(Zf.out.below hb7 Zf.out.lt).im9 Yt.out;clear hb7)
   | (go_at_call 35;refine(Y9q _ x.pn _ x.pool _ x.fn _ x.fs w5 HX.out.pl.1 hpb Ya.out.pool HX.out.fl.1 hfb Ya.out.fs).mono ?_;rintro e w6 ⟨rfl,hb6⟩;rw[Le.out];have Yl:Bx (Below w.heap.size w w6):=bx (Za.out.trans (hb6.mono Za.out.size));have Xr:=bx (Ya.out.up hb6);have Zf:=bx (Zm.out.below hb6 Zm.out.lt);have g8:=Zf.out.im8 Yt.out;clear hb6))
          go_ret;exact⟨by rw[HN.out];rfl,Xh.out⟩
         | true=>
          cases q9 with
          | false=>
           have HN:Bx (R=false):=bx (by rw[Qp.out,Sf.out.1,Sf.out.2];simp)
           go_wp2_with (first
   | (go_at_call 34;refine(Y9g _ x.pn _ x.pool _ 7 w5 HX.out.pl.1 hpb (by decide) Ya.out.pool).mono ?_;rintro e w' ⟨rfl,rfl⟩;first | rw[Lf.out] | rw[Nc.out])
   | (go_at_call 36;refine(Y9o _ x.pn _ x.pool _ x.an _ x.as_ w7 HX.out.pl.1 hpb Vq.out.pool HX.out.al.1 hab Vq.out.as_).mono ?_;rintro e w8 ⟨rfl,hb8⟩;rw[Tb.out];have Vk:Bx (Below w.heap.size w w8):=bx (Xh.out.trans (hb8.mono Xh.out.size));clear hb8)
   | (have hz:=Yl.out;clear hz;go_at_call 35;refine(Y9q _ x.pn _ x.pool _ x.mn _ x.ms w6 HX.out.pl.1 hpb Xr.out.pool HX.out.ml.1 hmb Xr.out.ms).mono ?_;rintro e w7 ⟨rfl,hb7⟩;rw[Ld.out];have Xh:Bx (Below w.heap.size w w7):=bx (Yl.out.trans (hb7.mono Yl.out.size));have Vq:=bx (Xr.out.up hb7);have g9:=(Zf.out.below hb7 Zf.out.lt).im9 Yt.out;clear hb7)
   | (go_at_call 35;refine(Y9q _ x.pn _ x.pool _ x.fn _ x.fs w5 HX.out.pl.1 hpb Ya.out.pool HX.out.fl.1 hfb Ya.out.fs).mono ?_;rintro e w6 ⟨rfl,hb6⟩;rw[Le.out];have Yl:Bx (Below w.heap.size w w6):=bx (Za.out.trans (hb6.mono Za.out.size));have Xr:=bx (Ya.out.up hb6);have Zf:=bx (Zm.out.below hb6 Zm.out.lt);have g8:=Zf.out.im8 Yt.out;clear hb6))
           go_ret;exact⟨by rw[HN.out];rfl,Vk.out⟩
          | true=>
           have HN:Bx (R=true):=bx (by rw[Qp.out,Sf.out.1,Sf.out.2];simp)
           go_wp2_with (first
   | (go_at_call 34;refine(Y9g _ x.pn _ x.pool _ 7 w5 HX.out.pl.1 hpb (by decide) Ya.out.pool).mono ?_;rintro e w' ⟨rfl,rfl⟩;first | rw[Lf.out] | rw[Nc.out])
   | (go_at_call 36;refine(Y9o _ x.pn _ x.pool _ x.an _ x.as_ w7 HX.out.pl.1 hpb Vq.out.pool HX.out.al.1 hab Vq.out.as_).mono ?_;rintro e w8 ⟨rfl,hb8⟩;rw[Tb.out];have Vk:Bx (Below w.heap.size w w8):=bx (Xh.out.trans (hb8.mono Xh.out.size));clear hb8)
   | (have hz:=Yl.out;clear hz;go_at_call 35;refine(Y9q _ x.pn _ x.pool _ x.mn _ x.ms w6 HX.out.pl.1 hpb Xr.out.pool HX.out.ml.1 hmb Xr.out.ms).mono ?_;rintro e w7 ⟨rfl,hb7⟩;rw[Ld.out];have Xh:Bx (Below w.heap.size w w7):=bx (Yl.out.trans (hb7.mono Yl.out.size));have Vq:=bx (Xr.out.up hb7);have g9:=(Zf.out.below hb7 Zf.out.lt).im9 Yt.out;clear hb7)
   | (go_at_call 35;refine(Y9q _ x.pn _ x.pool _ x.fn _ x.fs w5 HX.out.pl.1 hpb Ya.out.pool HX.out.fl.1 hfb Ya.out.fs).mono ?_;rintro e w6 ⟨rfl,hb6⟩;rw[Le.out];have Yl:Bx (Below w.heap.size w w6):=bx (Za.out.trans (hb6.mono Za.out.size));have Xr:=bx (Ya.out.up hb6);have Zf:=bx (Zm.out.below hb6 Zm.out.lt);have g8:=Zf.out.im8 Yt.out;clear hb6))
           go_ret;exact⟨by rw[HN.out];rfl,Vk.out⟩
       ·cases q6 with
        | false=>
         obtain rfl:s6=false:=by rw[←Xx.out];exact Z48 (fun h=>h.elim hs0 (of_decide_eq_false Nc.out))
         have HN:Bx (R=false):=bx (by rw[Qp.out,Sf.out.1,Sf.out.2];simp)
         go_wp2_with (first
   | (go_at_call 34;refine(Y9g _ x.pn _ x.pool _ 7 w5 HX.out.pl.1 hpb (by decide) Ya.out.pool).mono ?_;rintro e w' ⟨rfl,rfl⟩;first | rw[Lf.out] | rw[Nc.out])
   | (go_at_call 36;refine(Y9o _ x.pn _ x.pool _ x.an _ x.as_ w7 HX.out.pl.1 hpb Vq.out.pool HX.out.al.1 hab Vq.out.as_).mono ?_;rintro e w8 ⟨rfl,hb8⟩;rw[Tb.out];have Vk:Bx (Below w.heap.size w w8):=bx (Xh.out.trans (hb8.mono Xh.out.size));clear hb8)
   | (have hz:=Yl.out;clear hz;go_at_call 35;refine(Y9q _ x.pn _ x.pool _ x.mn _ x.ms w6 HX.out.pl.1 hpb Xr.out.pool HX.out.ml.1 hmb Xr.out.ms).mono ?_;rintro e w7 ⟨rfl,hb7⟩;rw[Ld.out];have Xh:Bx (Below w.heap.size w w7):=bx (Yl.out.trans (hb7.mono Yl.out.size));have Vq:=bx (Xr.out.up hb7);have g9:=(Zf.out.below hb7 Zf.out.lt).im9 Yt.out;clear hb7)
   | (go_at_call 35;refine(Y9q _ x.pn _ x.pool _ x.fn _ x.fs w5 HX.out.pl.1 hpb Ya.out.pool HX.out.fl.1 hfb Ya.out.fs).mono ?_;rintro e w6 ⟨rfl,hb6⟩;rw[Le.out];have Yl:Bx (Below w.heap.size w w6):=bx (Za.out.trans (hb6.mono Za.out.size));have Xr:=bx (Ya.out.up hb6);have Zf:=bx (Zm.out.below hb6 Zm.out.lt);have g8:=Zf.out.im8 Yt.out;clear hb6))
         go_ret;exact⟨by rw[HN.out];rfl,Za.out⟩
        | true=>
         obtain rfl:s6=true:=by rw[←Xx.out];exact Z47 (Or.inr (Z49 Nc.out))
         cases q7 with
         | false=>
          have HN:Bx (R=false):=bx (by rw[Qp.out,Sf.out.1,Sf.out.2];simp)
          go_wp2_with (first
   | (go_at_call 34;refine(Y9g _ x.pn _ x.pool _ 7 w5 HX.out.pl.1 hpb (by decide) Ya.out.pool).mono ?_;rintro e w' ⟨rfl,rfl⟩;first | rw[Lf.out] | rw[Nc.out])
   | (go_at_call 36;refine(Y9o _ x.pn _ x.pool _ x.an _ x.as_ w7 HX.out.pl.1 hpb Vq.out.pool HX.out.al.1 hab Vq.out.as_).mono ?_;rintro e w8 ⟨rfl,hb8⟩;rw[Tb.out];have Vk:Bx (Below w.heap.size w w8):=bx (Xh.out.trans (hb8.mono Xh.out.size));clear hb8)
   | (have hz:=Yl.out;clear hz;go_at_call 35;refine(Y9q _ x.pn _ x.pool _ x.mn _ x.ms w6 HX.out.pl.1 hpb Xr.out.pool HX.out.ml.1 hmb Xr.out.ms).mono ?_;rintro e w7 ⟨rfl,hb7⟩;rw[Ld.out];have Xh:Bx (Below w.heap.size w w7):=bx (Yl.out.trans (hb7.mono Yl.out.size));have Vq:=bx (Xr.out.up hb7);have g9:=(Zf.out.below hb7 Zf.out.lt).im9 Yt.out;clear hb7)
   | (go_at_call 35;refine(Y9q _ x.pn _ x.pool _ x.fn _ x.fs w5 HX.out.pl.1 hpb Ya.out.pool HX.out.fl.1 hfb Ya.out.fs).mono ?_;rintro e w6 ⟨rfl,hb6⟩;rw[Le.out];have Yl:Bx (Below w.heap.size w w6):=bx (Za.out.trans (hb6.mono Za.out.size));have Xr:=bx (Ya.out.up hb6);have Zf:=bx (Zm.out.below hb6 Zm.out.lt);have g8:=Zf.out.im8 Yt.out;clear hb6))
          go_ret;exact⟨by rw[HN.out];rfl,Yl.out⟩
         | true=>
          cases q8 with
          | false=>
           have HN:Bx (R=false):=bx (by rw[Qp.out,Sf.out.1,Sf.out.2];simp)
           go_wp2_with (first
   | (go_at_call 34;refine(Y9g _ x.pn _ x.pool _ 7 w5 HX.out.pl.1 hpb (by decide) Ya.out.pool).mono ?_;rintro e w' ⟨rfl,rfl⟩;first | rw[Lf.out] | rw[Nc.out])
   | (go_at_call 36;refine(Y9o _ x.pn _ x.pool _ x.an _ x.as_ w7 HX.out.pl.1 hpb Vq.out.pool HX.out.al.1 hab Vq.out.as_).mono ?_;rintro e w8 ⟨rfl,hb8⟩;rw[Tb.out];have Vk:Bx (Below w.heap.size w w8):=bx (Xh.out.trans (hb8.mono Xh.out.size));clear hb8)
   | (have hz:=Yl.out;clear hz;go_at_call 35;refine(Y9q _ x.pn _ x.pool _ x.mn _ x.ms w6 HX.out.pl.1 hpb Xr.out.pool HX.out.ml.1 hmb Xr.out.ms).mono ?_;rintro e w7 ⟨rfl,hb7⟩;rw[Ld.out];have Xh:Bx (Below w.heap.size w w7):=bx (Yl.out.trans (hb7.mono Yl.out.size));have Vq:=bx (Xr.out.up hb7);have g9:=(Zf.out.below hb7 Zf.out.lt).im9 Yt.out;clear hb7)
   | (go_at_call 35;refine(Y9q _ x.pn _ x.pool _ x.fn _ x.fs w5 HX.out.pl.1 hpb Ya.out.pool HX.out.fl.1 hfb Ya.out.fs).mono ?_;rintro e w6 ⟨rfl,hb6⟩;rw[Le.out];have Yl:Bx (Below w.heap.size w w6):=bx (Za.out.trans (hb6.mono Za.out.size));have Xr:=bx (Ya.out.up hb6);have Zf:=bx (Zm.out.below hb6 Zm.out.lt);have g8:=Zf.out.im8 Yt.out;clear hb6))
           go_ret;exact⟨by rw[HN.out];rfl,Xh.out⟩
          | true=>
           cases q9 with
           | false=>
            have HN:Bx (R=false):=bx (by rw[Qp.out,Sf.out.1,Sf.out.2];simp)
            go_wp2_with (first
   | (go_at_call 34;refine(Y9g _ x.pn _ x.pool _ 7 w5 HX.out.pl.1 hpb (by decide) Ya.out.pool).mono ?_;rintro e w' ⟨rfl,rfl⟩;first | rw[Lf.out] | rw[Nc.out])
   | (go_at_call 36;refine(Y9o _ x.pn _ x.pool _ x.an _ x.as_ w7 HX.out.pl.1 hpb Vq.out.pool HX.out.al.1 hab Vq.out.as_).mono ?_;rintro e w8 ⟨rfl,hb8⟩;rw[Tb.out];have Vk:Bx (Below w.heap.size w w8):=bx (Xh.out.trans (hb8.mono Xh.out.size));clear hb8)
   | (have hz:=Yl.out;clear hz;go_at_call 35;refine(Y9q _ x.pn _ x.pool _ x.mn _ x.ms w6 HX.out.pl.1 hpb Xr.out.pool HX.out.ml.1 hmb Xr.out.ms).mono ?_;rintro e w7 ⟨rfl,hb7⟩;rw[Ld.out];have Xh:Bx (Below w.heap.size w w7):=bx (Yl.out.trans (hb7.mono Yl.out.size));have Vq:=bx (Xr.out.up hb7);have g9:=(Zf.out.below hb7 Zf.out.lt).im9 Yt.out;clear hb7)
   | (go_at_call 35;refine(Y9q _ x.pn _ x.pool _ x.fn _ x.fs w5 HX.out.pl.1 hpb Ya.out.pool HX.out.fl.1 hfb Ya.out.fs).mono ?_;rintro e w6 ⟨rfl,hb6⟩;rw[Le.out];have Yl:Bx (Below w.heap.size w w6):=bx (Za.out.trans (hb6.mono Za.out.size));have Xr:=bx (Ya.out.up hb6);have Zf:=bx (Zm.out.below hb6 Zm.out.lt);have g8:=Zf.out.im8 Yt.out;clear hb6))
            go_ret;exact⟨by rw[HN.out];rfl,Vk.out⟩
           | true=>
            have HN:Bx (R=true):=bx (by rw[Qp.out,Sf.out.1,Sf.out.2];simp)
            go_wp2_with (first
   | (go_at_call 34;refine(Y9g _ x.pn _ x.pool _ 7 w5 HX.out.pl.1 hpb (by decide) Ya.out.pool).mono ?_;rintro e w' ⟨rfl,rfl⟩;first | rw[Lf.out] | rw[Nc.out])
   | (go_at_call 36;refine(Y9o _ x.pn _ x.pool _ x.an _ x.as_ w7 HX.out.pl.1 hpb Vq.out.pool HX.out.al.1 hab Vq.out.as_).mono ?_;rintro e w8 ⟨rfl,hb8⟩;rw[Tb.out];have Vk:Bx (Below w.heap.size w w8):=bx (Xh.out.trans (hb8.mono Xh.out.size));clear hb8)
   | (have hz:=Yl.out;clear hz;go_at_call 35;refine(Y9q _ x.pn _ x.pool _ x.mn _ x.ms w6 HX.out.pl.1 hpb Xr.out.pool HX.out.ml.1 hmb Xr.out.ms).mono ?_;rintro e w7 ⟨rfl,hb7⟩;rw[Ld.out];have Xh:Bx (Below w.heap.size w w7):=bx (Yl.out.trans (hb7.mono Yl.out.size));have Vq:=bx (Xr.out.up hb7);have g9:=(Zf.out.below hb7 Zf.out.lt).im9 Yt.out;clear hb7)
   | (go_at_call 35;refine(Y9q _ x.pn _ x.pool _ x.fn _ x.fs w5 HX.out.pl.1 hpb Ya.out.pool HX.out.fl.1 hfb Ya.out.fs).mono ?_;rintro e w6 ⟨rfl,hb6⟩;rw[Le.out];have Yl:Bx (Below w.heap.size w w6):=bx (Za.out.trans (hb6.mono Za.out.size));have Xr:=bx (Ya.out.up hb6);have Zf:=bx (Zm.out.below hb6 Zm.out.lt);have g8:=Zf.out.im8 Yt.out;clear hb6))
            go_ret;exact⟨by rw[HN.out];rfl,Vk.out⟩
   ·have h64I:(64:Int)<(x.i_n:Int):=by omega
    obtain rfl:q4=false:=by rw[←Jj.out];exact Z48 h64
    have HN:Bx (R=false):=bx (by rw[Qp.out];simp)
    go_wp2_with (first
   | (go_at_call 32;rw[Sh.out];refine(Y8z _ 2 2 [x.minor,x.access] wc rfl (by decide) Qi.out).mono ?_;rintro e w' ⟨rfl,rfl⟩;rw[HU.out])
   | (go_at_call 33;refine(Y7z _ x.pn _ x.pool wc HX.out.pl.1 hpb Nb.out.pool HT.out).mono ?_;rintro e w5 ⟨rfl,hb5⟩;rw[Po.out];have Za:Bx (Below w.heap.size w w5):=bx (Xj.out.trans (hb5.mono Xj.out.size));have Ya:=bx (Nb.out.up hb5);have Zm:=bx (Vm.out.below hb5 Vm.out.lt);have f6:=Zm.out.im6 Yt.out;clear hb5))
    go_ret;exact⟨by rw[HN.out];rfl,Za.out⟩
end Go.Proofs.YtpmfiegfbmamiaaDoor
