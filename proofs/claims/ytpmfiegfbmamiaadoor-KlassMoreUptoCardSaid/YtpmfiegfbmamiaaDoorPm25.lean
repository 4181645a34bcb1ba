/- Parts: What Make leaves is an image that lies as RIm says. Contract: fixed of samovarlaw15. -/
import Derived.Test.YtpmfiegfbmamiaaDoorPm24
import Derived.Test.YtpmfiegfbmamiaaDoorPm2
import Derived.Test.YtpmfiegfbmamiaaDoorPm18
namespace Go.Proofs.YtpmfiegfbmamiaaDoor
set_option maxRecDepth 100000
set_option maxHeartbeats 8000000
open Go.RowKit
theorem W7n {w0 w:World} {b gk gm:Nat} {ac:Int} {V:Value} {y:ImE}
  (hS:MkS w0 w b gk gm ac y.this y.super V (.slice y.iA y.i_n y.ic) (.slice y.fA y.fn y.fc) (.slice y.mA y.mn y.mc) y.pool y.ifs y.fs y.ms)
  (hV:V = .slice y.pA y.pn y.pc) (has:y.as_=[]) (haA:y.aA=none) (han:y.an=0) (hac:y.ac=0):RIm w w.heap.size y:=by
 obtain⟨pA,pc,hvp,hrp,hcp⟩:=OwS.rd hS.mkr.own;obtain⟨eA,ec,hvi,hri,hci,hmi⟩:=OwL.rd hS.i;obtain⟨uA,uc,hvf,hrf,hcf⟩:=OwS.rd hS.f;obtain⟨vA,vc,hvm,hrm,hcm⟩:=OwS.rd hS.m;have hop:=own_cap hS.mkr.own hvp;have hof:=own_cap hS.f hvf;have hom:=own_cap hS.m hvm;rw[hV]at hvp;injection hvp with p1 p2 p3
 injection hvi with i1 i2 i3
 injection hvf with f1 f2 f3
 injection hvm with m1 m2 m3
 have hsubF:∀z∈y.fs,MmB w w.heap.size z:=fun z hz=>(hS.sub z (.inl hz)).mmB (fun k hk=>Z07 hk.2.1 hS.bb);have hsubM:∀z∈y.ms,MmB w w.heap.size z:=fun z hz=>(hS.sub z (.inr hz)).mmB (fun k hk=>Z07 hk.2.1 hS.bb);refine⟨by rw[p1];exact hrp,⟨p2.symm,by rw[p2,p3];exact hcp,by rw[p3];exact hop⟩,by rw[i1];exact hri,⟨i2.symm,by rw[i2,i3];exact hci,by rw[i3];exact hmi⟩,⟨by rw[f1];exact hrf,hsubF⟩,⟨f2.symm,by rw[f2,f3];exact hcf,by rw[f3];exact hof⟩,⟨by rw[m1];exact hrm,hsubM⟩,⟨m2.symm,by rw[m2,m3];exact hcm,by rw[m3];exact hom⟩,?_,?_⟩
 ·rw[has,haA];exact RA.nil
 ·rw[has,han,hac];exact⟨rfl,Z00 _,by decide⟩
open Go.RowKit
set_option linter.unusedSimpArgs false
def fxc (a:Int):ClE:=⟨a,[65],objN,sq0,sq0,sq0,sq0⟩
theorem W5t (a:Int) (w:World) (X:Nat→Prop):ClX w X (fxc a):=⟨SqX.nil,SqX.nil,SqX.nil,(fun m h=>by cases h),SqX.nil⟩
theorem W4x (a:Int) (h:InR a):ClN 2000000 (fxc a):=⟨h,Nat.le_of_ble_eq_true rfl,Nat.le_of_ble_eq_true rfl,⟨Z35 _,fun t h=>by cases h⟩,⟨Z35 _,fun t h=>by cases h⟩,⟨Z35 _,fun t h=>by cases h⟩,⟨Z35 _,fun t h=>by cases h⟩⟩
def mtAr (x:MtE):Array Value:=#[.int .i64 x.access,strQ x.name,strQ x.desc,.bool x.there,.int .i64 x.stack,.int .i64 x.locals,slV x.code,x.hs.v,x.fs.v]
def fxM:MtE:=⟨0,[102],[40,41,86],false,0,0,⟨none,0,0,[]⟩,sq0,sq0⟩
def fx3 (g:Nat):ClE:=⟨33,[65],objN,sq0,sq0,⟨some ⟨g,0,none⟩,1,1,[fxM]⟩,sq0⟩
theorem fx3_n (g:Nat):ClN 2000000 (fx3 g):=⟨(⟨by decide,by decide⟩:InR 33),Nat.le_of_ble_eq_true rfl,Nat.le_of_ble_eq_true rfl,⟨Z35 _,fun t h=>by cases h⟩,⟨Z35 _,fun t h=>by cases h⟩,⟨(Nat.le_of_ble_eq_true rfl:1≤2000000),fun t h=>by
 obtain rfl:t=fxM:=List.mem_singleton.1 h;exact⟨⟨by decide,by decide⟩,Nat.le_of_ble_eq_true rfl,Nat.le_of_ble_eq_true rfl,⟨by decide,by decide⟩,⟨by decide,by decide⟩,Z35 _,⟨Z35 _,fun t h=>by cases h⟩,⟨Z35 _,fun t h=>by cases h⟩⟩⟩,⟨Z35 _,fun t h=>by cases h⟩⟩
theorem fx3_x {w:World} {g:Nat} (h:Bk w g 51 (mtAr fxM)):ClX w (fun k=>k<w.heap.size) (fx3 g):=by
 have hm:MtX w (fun k=>k<w.heap.size) fxM:=⟨⟨rfl,Z00 _,by show ((0:Nat):Int)≤_;omega,fun h=>absurd rfl h⟩,SqX.nil,SqX.nil,fun f hf=>by cases hf⟩;refine⟨SqX.nil,SqX.nil,⟨rfl,Z00 _,by show ((1:Nat):Int)≤_;omega,fun _=>⟨_,rfl,h.lt,fun i u hu=>?_⟩⟩,fun m hm'=>?_,SqX.nil⟩
 ·have e:(⟨g,0,none⟩:Addr).add i=⟨g,i,none⟩:=by unfold Addr.add;split <;> simp_all
  rw[e,h.cell i];have hu:(mtC fxM)[i]? = some u:=(by simpa [fx3] using hu);rw[←hu];simp [mtAr,mtC]
 ·obtain rfl:m=fxM:=List.mem_singleton.1 hm'
  exact hm
theorem Y1e (w:World) (hm:0<w.heap.size∧∃m,w.cell? ⟨0,0,none⟩=some (.int .i64 m)):Calls Tryd.prog 4 #[] w fun e w'=>e = .returned (.bool true)∧Below w.heap.size w w':=by
 have HM:=bx hm;obtain⟨g1,hg1⟩:∃g1,w.heap.size=g1:=⟨_,rfl⟩;have Pq:Bx (w.heap.size≤g1):=bx (Z32 hg1);have hb1:=Y9z (Below.refl w.heap.size w) (Z00 _) (.cells (clA (fxc 33)) 27);have hk1:=Bk.newAt w 27 (clA (fxc 33)) hg1
 go_enter Tryd.func4,Tryd.ntmps4
 clear hm;go_upto_region 2 with(fail)
 change Code.wp _ _ _ _ (w.alloc (.cells (clA (fxc 33)) 27));generalize w.alloc (.cells (clA (fxc 33)) 27)=w1 at hb1 hk1 ⊢;have Jz:=bx (Y5v (fxc 33) w1 (W5t _ _ _) (W4x _ ⟨by decide,by decide⟩) (by obtain⟨h1,m,h2⟩:=HM.out;exact⟨Z07 h1 hb1.size,m,(hb1.cell (p:=⟨0,0,none⟩) h1).trans h2⟩));have Zl:=bx hb1;have Yz:=bx hk1;clear hb1 hk1 hg1;go_wp2_with (refine wpList_load_row rfl 27 (.tmp 1) rfl g1 rfl _ (clA (fxc 33)) _ _ Yz.out Tryd.underlying27 rfl Y9h ?_)
 refine Jz.out.mono ?_;intro e w2 ho;clear Jz;unfold MakePost MakeQ at ho;rw[show makeK (fxc 33).p (fxc 33).pool.l=some (mimK exC []) from X9c.1]at ho;obtain⟨⟨gk,gm,V,y,hyp,hV,-,-,-,has,haA,han,hac,hS,rfl⟩,hb2⟩:=ho;have hrm2:=W7n hS hV has haA han hac;have Gn:=bx hyp
 have HT:Bx (∀c∈y.pool,(-9223372036854775808≤c.tag∧c.tag≤9223372036854775807)∧c.text.length≤2000000):=bx (fun c hc=>by
  have:=hS.mkr.cb c hc
  exact⟨this.tag,this.text⟩)
 have Jb:Bx (SqX cstC w2 (fun k=>g1<k∧k<w2.heap.size) ⟨y.pA,y.pn,y.pc,y.pool⟩):=bx (by have h:=hS.mkr.own;rw[hV]at h;exact SqX.of h (fun k h1 h2=>⟨Z07 Yz.out.lt h1,h2⟩));have hb20:=Zl.out.trans (hb2.mono Zl.out.size);obtain⟨g2,hg2⟩:∃g2,w2.heap.size=g2:=⟨_,rfl⟩;have hba:=Y9z (Below.refl w2.heap.size w2) (Z00 _) (.cells (imC y) 34);have hb3:=Y9z hb20 (Z00 _) (.cells (imC y) 34);have hk2:=Bk.newAt w2 34 (imC y) hg2;have hk1:=(Yz.out.below hb2 Yz.out.lt).alloc (.cells (imC y) 34);have hrm3:=hrm2.up hba;have Js:=bx (Jb.out.step (w':=w2.alloc (.cells (imC y) 34)) (Y:=fun k=>g1<k∧k<(w2.alloc (.cells (imC y) 34)).heap.size) (fun k hk=>hba.block k hk.2) (fun k hk=>⟨hk.1,Z07 hk.2 hba.size⟩));have hgl:g1<g2:=by have:=(Yz.out.below hb2 Yz.out.lt).lt;omega
 have Wg:=bx hgl;clear hS hV has haA han hac hyp hgl hb20 hrm2 hb2 Yz Zl;clear Jb;unfold imC at hba hb3 hk2 hk1 hrm3 Js ⊢;go_upto_region 3 with(fail)
 generalize w2.alloc _=w3 at hba hb3 hk2 hk1 hrm3 Js ⊢;have Kv:=bx (X9e y w3 hrm3 HT.out (by obtain⟨h1,m,h2⟩:=HM.out;exact⟨Z07 h1 hb3.size,m,(hb3.cell (p:=⟨0,0,none⟩) h1).trans h2⟩));have Xv:=bx hb3;have Yz:=bx hk1;have Zj:=bx hk2;have Vf:=bx hrm3;clear hb3 hk1 hk2 hba hrm3 hg2;go_wp2_with (refine wpList_load_row rfl 34 (.tmp 2) rfl g2 rfl _ (imC y) _ _ Zj.out Tryd.underlying34 rfl (by rw[Y6m];exact Y9p) ?_)
 refine Kv.out.mono ?_;intro e w4 ho;clear Kv;unfold OfPost OfQ at ho;rw[Gn.out,X9c.2]at ho;obtain⟨⟨z,hz1,hz2,hz3,rfl⟩,hb4⟩:=ho;have HZ:=bx (And.intro hz1 (And.intro hz2 hz3));obtain⟨g4,hg4⟩:∃g4,w4.heap.size=g4:=⟨_,rfl⟩;have hb5:=Y9z (Xv.out.trans (hb4.mono Xv.out.size)) (Z00 _) (.cells (clA z) 27);have hk4:=Bk.newAt w4 27 (clA z) hg4;have hk1:=(Yz.out.below hb4 Yz.out.lt).alloc (.cells (clA z) 27);have hk2:=(Zj.out.below hb4 Zj.out.lt).alloc (.cells (clA z) 27);have hr5:=Js.out.step (w':=w4.alloc (.cells (clA z) 27)) (Y:=fun k=>g1<k∧k<(w4.alloc (.cells (clA z) 27)).heap.size) (fun k hk=>by have h:=Y9z hb4 (Z00 _) (.cells (clA z) 27);exact h.block k hk.2) (fun k hk=>⟨hk.1,Z07 hk.2 (Y9z hb4 (Z00 _) (.cells (clA z) 27)).size⟩);have hgl:g2<g4:=by have:=(Zj.out.below hb4 Zj.out.lt).lt;omega
 have I2:=bx hgl;clear hz1 hz2 hz3 hb4 hgl Xv Yz Zj Vf Js;unfold clA strQ Sq.v at hb5 hk4 hk1 hk2 hr5 ⊢;go_upto_region 4 with(fail)
 change Bk _ g1 _ (clA (fxc 33)) at hk1;generalize w4.alloc _=w5 at hb5 hk4 hk1 hk2 hr5 ⊢;have Za:=bx hb5;have Zk:=bx hk4;have Yz:=bx hk1;have Zj:=bx hk2;have To:=bx hr5;have hb6:=hb5.setCell (p:=⟨g1,0,none⟩) (by show w.heap.size≤g1;exact Pq.out) (.int .i64 560);have hk6:=hk1.set 0 (.int .i64 560);change Bk _ g1 _ (clA (fxc 560)) at hk6;have f1:w5.cell? ⟨g1,0,none⟩=some (.int .i64 33):=hk1.cell 0;have z1:=hk1.frz 0;have hl1:=hk1.lt;clear hb5 hk4 hk1 hk2 hr5 hg4;have hk26:=Zj.out.far (p:=⟨g1,0,none⟩) (by show g2≠g1;have:=Wg.out;omega) (.int .i64 560);have hk46:=Zk.out.far (p:=⟨g1,0,none⟩) (by show g4≠g1;have:=Wg.out;have:=I2.out;omega) (.int .i64 560);have hp6:=To.out.step (w':=w5.setCell ⟨g1,0,none⟩ (.int .i64 560)) (Y:=fun k=>k<(w5.setCell ⟨g1,0,none⟩ (.int .i64 560)).heap.size) (fun k hk=>(Y9i w5 g1 0 (.int .i64 560)).same k hk.2 (fun e=>by have:=hk.1;have e:k=g1:=e;omega)) (fun k hk=>Z07 hk.2 (Y9i w5 g1 0 (.int .i64 560)).size);go_upto_region 5 with(fail)
 generalize w5.setCell ⟨g1,0,none⟩ (.int .i64 560)=w6 at hb6 hk6 hk26 hk46 hp6 ⊢;have Nn:Bx (Calls Tryd.prog 5 #[.agg (clA (fxc 560))] w6 (MakePost w6 (fxc 560).p (fxc 560).pool.l)):=bx (Y5v (fxc 560) w6 (W5t _ _ _) (W4x _ ⟨by decide,by decide⟩) (by obtain⟨h1,m,h2⟩:=HM.out;exact⟨Z07 h1 hb6.size,m,(hb6.cell (p:=⟨0,0,none⟩) h1).trans h2⟩));have Yl:=bx hb6;have Zf:=bx hk6;have Qz:=bx hk26;have De:=bx hk46;have Mk:=bx hp6;clear hb6 hk6 hk26 hk46 hp6 Za Zk Yz Zj To f1 z1 hl1;go_wp2_with (refine wpList_load_row rfl 27 (.tmp 1) rfl g1 rfl _ (clA (fxc 560)) _ _ Zf.out Tryd.underlying27 rfl Y9h ?_)
 refine Nn.out.mono ?_;intro e w7 ho;clear Nn;unfold MakePost MakeQ at ho;rw[show makeK (fxc 560).p (fxc 560).pool.l=none from W9x]at ho;obtain⟨rfl,hb7⟩:=ho;have hb70:=Y9z (Yl.out.trans (hb7.mono Yl.out.size)) (Z00 _) (.cells imZ 34);have hk27:=(Qz.out.below hb7 Qz.out.lt).alloc (.cells imZ 34);have hk47:=(De.out.below hb7 De.out.lt).alloc (.cells imZ 34);have hp7:=Mk.out.step (w':=w7.alloc (.cells imZ 34)) (Y:=fun k=>k<(w7.alloc (.cells imZ 34)).heap.size) (fun k hk=>(Y9z hb7 (Z00 _) (.cells imZ 34)).block k hk) (fun k hk=>Z07 hk (Y9z hb7 (Z00 _) (.cells imZ 34)).size);clear hb7 Yl Zf Qz De Mk;unfold imZ at hb70 hk27 hk47 hp7 ⊢;go_upto_region 6 with(fail)
 generalize w7.alloc _=w8 at hb70 hk27 hk47 hp7 ⊢;obtain⟨g8,hg8⟩:∃g8,w8.heap.size=g8:=⟨_,rfl⟩;have hb9:=Y9z (Below.refl w8.heap.size w8) (Z00 _) (.cells (mtAr fxM) 51);have hk9:=Bk.newAt w8 51 (mtAr fxM) hg8;have Xu:=bx (hb70.trans (hb9.mono hb70.size));have hk29:=hk27.alloc (.cells (mtAr fxM) 51);have hk49:=hk47.alloc (.cells (mtAr fxM) 51);have hp9:=hp7.step (w':=w8.alloc (.cells (mtAr fxM) 51)) (Y:=fun k=>k<(w8.alloc (.cells (mtAr fxM) 51)).heap.size) (fun k hk=>hb9.block k hk) (fun k hk=>Z07 hk hb9.size);have hx3:ClX (w8.alloc (.cells (mtAr fxM) 51)) (fun k=>k<(w8.alloc (.cells (mtAr fxM) 51)).heap.size) (fx3 g8):=fx3_x hk9;have Dd:=bx (Y5v (fx3 g8) _ hx3 (fx3_n g8) (by obtain⟨h1,m,h2⟩:=HM.out;exact⟨Z07 h1 Xu.out.size,m,(Xu.out.cell (p:=⟨0,0,none⟩) h1).trans h2⟩));have hm3:makeK (fx3 g8).p (fx3 g8).pool.l=none:=X0b;have C9:=bx hm3;have Jr:=bx hk29;have Jq:=bx hk49;have So:=bx hp9;clear hb9 hk9 hb70 hk27 hk47 hp7 hk29 hk49 hp9 hx3 hm3;obtain⟨w9,hw9⟩:∃w9,w8.alloc (.cells (mtAr fxM) 51)=w9:=⟨_,rfl⟩;rw[hw9]at Dd Xu Jr Jq So;have HW9:w8.alloc (.cells #[.int .i64 0,.string ⟨#[102]⟩,.string ⟨#[40,41,86]⟩,.bool false,.int .i64 0,.int .i64 0,.slice none 0 0,.slice none 0 0,.slice none 0 0] 51)=w9:=hw9;clear hw9;go_wp2_with fail
 refine Dd.out.mono ?_;intro e w10 ho;clear Dd HW9 hg8;unfold MakePost MakeQ at ho;rw[C9.out]at ho;obtain⟨rfl,hb10⟩:=ho;have hb11:=Y9z (Xu.out.trans (hb10.mono Xu.out.size)) (Z00 _) (.cells imZ 34);have hk2:=(Jr.out.below hb10 Jr.out.lt).alloc (.cells imZ 34);have hk4:=(Jq.out.below hb10 Jq.out.lt).alloc (.cells imZ 34);have hp:=So.out.step (w':=w10.alloc (.cells imZ 34)) (Y:=fun k=>k<(w10.alloc (.cells imZ 34)).heap.size) (fun k hk=>(Y9z hb10 (Z00 _) (.cells imZ 34)).block k hk) (fun k hk=>Z07 hk (Y9z hb10 (Z00 _) (.cells imZ 34)).size);clear hb10 Xu Jr Jq So C9;unfold imZ at hb11 hk2 hk4 hp ⊢;go_upto_region 7 with(fail)
 generalize w10.alloc _=w11 at hb11 hk2 hk4 hp ⊢;have Jh:=bx (X2w none 0 0 [] w11 rfl (by decide) (fun h=>absurd rfl h) (by obtain⟨h1,m,h2⟩:=HM.out;exact⟨Z07 h1 hb11.size,m,(hb11.cell (p:=⟨0,0,none⟩) h1).trans h2⟩));have Dc:=bx hb11;have Zj:=bx hk2;have Zk:=bx hk4;have HP:=bx hp;clear hb11 hk2 hk4 hp;go_wp2_with fail
 refine Jh.out.mono ?_;intro e w12 ho;clear Jh;rw[show parseP [] = .err 2 from X1l]at ho;obtain⟨hb12,rfl,_⟩:=ho;have hb13:=Y9z (Dc.out.trans (hb12.mono Dc.out.size)) (Z00 _) (.cells z7 27);have hk2:=(Zj.out.below hb12 Zj.out.lt).alloc (.cells z7 27);have hk4:=(Zk.out.below hb12 Zk.out.lt).alloc (.cells z7 27);have hp:=HP.out.step (w':=w12.alloc (.cells z7 27)) (Y:=fun k=>k<(w12.alloc (.cells z7 27)).heap.size) (fun k hk=>(Y9z hb12 (Z00 _) (.cells z7 27)).block k hk) (fun k hk=>Z07 hk (Y9z hb12 (Z00 _) (.cells z7 27)).size);clear hb12 Dc Zj Zk HP;unfold z7 at hb13 hk2 hk4 hp ⊢;go_upto_region 8 with(fail)
 generalize w12.alloc _=w13 at hb13 hk2 hk4 hp ⊢;have c2:w13.cell? ⟨g2,2,none⟩=some (.slice y.pA y.pn y.pc):=(hk2.cell 2).trans rfl;have c41:w13.cell? ⟨g4,1,none⟩=some (.string ⟨z.name.toArray⟩):=(hk4.cell 1).trans rfl;have c46:w13.cell? ⟨g4,6,none⟩=some (.slice z.pool.A z.pool.n z.pool.c):=(hk4.cell 6).trans rfl;have hyp2:y.pool=(mimK exC []).pool:=congrArg Img.pool Gn.out;have hpl:(mimK exC []).pool.length=5:=Y0j.2.1;have hpn:y.pn=5:=by have h1:=hp.1;have h2:y.pool.length=y.pn:=h1;rw[←h2,hyp2,hpl]
 have hzn:z.name=[65]:=congrArg Cls.name HZ.out.1;have hzp:z.pool.n=5:=by have h1:=HZ.out.2.2.pool.1;rw[←h1,HZ.out.2.1,hpl]
 obtain⟨ad,hA,_,hcl⟩:=hp.2.2.2 (by
  show (y.pool.flatMap cstC)≠[];intro e0
  have:=congrArg List.length e0
  rw[cstCels.all,hyp2,hpl]at this;cases this)
 have h5:∃c5,y.pool[4]? = some c5∧c5.tag=7:=by
  have h:=Y0j.2.2;rw[←hyp2]at h;cases hc:y.pool[4]? with
  | none=>rw[hc]at h;cases h
  | some c5=>rw[hc]at h;exact⟨c5,rfl,by simpa using h⟩
 obtain⟨c5,hc5,ht5⟩:=h5
 have ct:w13.cell? ⟨ad.block,ad.off+20,none⟩=some (.int .i64 7):=by
  rw[←X3k ad 19]
  have:=hcl (4*5+0) (.int .i64 c5.tag) (cstCels.get hc5 rfl)
  rw[ht5]at this;exact this
 have hA:y.pA=some ad:=hA;rw[hA,hpn]at c2;rw[hzn]at c41;rw[hzp]at c46;have Mg:=bx hb13;clear hb13 hk2 hk4 hp hcl hc5 ht5 hyp2 hpl hpn hzn hzp hA;go_wp2;go_ret;exact⟨rfl,Mg.out⟩
end Go.Proofs.YtpmfiegfbmamiaaDoor
