/- Walk of KlassBack. -/
import Derived.Test.YtpmfiegfbmamiaaGreatDoorPk25
import Derived.Test.YtpmfiegfbmamiaaGreatDoorPk28
import Derived.Test.YtpmfiegfbmamiaaGreatDoorPk5
import Derived.Test.YtpmfiegfbmamiaaGreatDoorPk29
import Derived.Test.YtpmfiegfbmamiaaGreatDoorPk12
namespace Go.Proofs.YtpmfiegfbmamiaaGreatDoor
set_option maxRecDepth 100000
set_option maxHeartbeats 8000000
open Go.RowKit
set_option linter.unusedSimpArgs false
theorem kwOk {R:Rz (List UInt8)} {w:World} {e:Ending} {w':World} {o:List UInt8} (h:ImgWPost R w e w') (hR:R = .ok o):∃A n c,e = .returned (.tuple #[.slice A n c,.int .i64 0])∧Bx (n=o.length)∧RB w' w'.heap.size A o∧o.length≤32768∧Below w.heap.size w w':=by
 subst hR;obtain⟨hb,v,h1,h2,h3⟩:=h;obtain⟨A,n,c,rfl,hn,hr⟩:=OwL.sl h2;exact⟨A,n,c,h1,hn,hr,h3,hb⟩
theorem hm_of {w:World} (h:∃m,w.cell? ⟨4,0,none⟩=some (.int .i64 m)):4<w.heap.size∧∃m,w.cell? ⟨4,0,none⟩=some (.int .i64 m):=by
 obtain⟨m,hm⟩:=h;exact⟨World.block_lt_of_cell? w _ hm,m,hm⟩
theorem kwErr {R:Rz (List UInt8)} {w:World} {e:Ending} {w':World} {k:Int} (h:ImgWPost R w e w') (hR:R = .err k):e = .returned (.tuple #[.slice none 0 0,.int .i64 k])∧(k=24∨k=8)∧Below w.heap.size w w':=by
 subst hR;exact⟨h.2.1,h.2.2,h.1⟩
theorem W3v {m:Img} {k:Int} (hm:(ofP m).isSome=true) (h:writeP m = .err k):k=8:=by
 have hh:holdsP m=true:=by
  unfold ofP at hm;by_cases e:holdsP m=true
  ·exact e
  ·rw[if_neg e]at hm;cases hm
 unfold writeP at h;rw[if_neg (by rw[hh];decide)]at h
 split at h
 ·injection h with h;exact h.symm
 ·cases h
theorem ClN.upW {k k':Nat} {x:ClE} (h:ClN k x) (hk:k≤k'):ClN k' x:=
 ⟨h.access,Z09 h.name hk,Z09 h.super hk,⟨Z09 h.ifs.1 hk,fun t ht=>Z09 (h.ifs.2 t ht) hk⟩,⟨Z09 h.fls.1 hk,fun t ht=>(h.fls.2 t ht).up hk⟩,⟨Z09 h.mts.1 hk,fun t ht=>(h.mts.2 t ht).up hk⟩,⟨Z09 h.pool.1 hk,fun t ht=>(h.pool.2 t ht).up hk⟩⟩
theorem X9g {x z:ClE} {w:World} {X:Nat→Prop} {k:Nat} (hz:ClX w X z) (hN:∀m∈x.mts.l,m.code.l.length≤k) (hp:z.p=x.p):∀m∈z.mts.l,m.code.n≤k:=fun m hm=>by
 have h1:z.mts.l.map MtE.p=x.mts.l.map MtE.p:=congrArg Cls.methods hp;have h2:m.p∈x.mts.l.map MtE.p:=by rw[←h1];exact List.mem_map_of_mem hm
 obtain⟨m',hm',he⟩:=List.mem_map.1 h2;have h3:m'.code.l=m.code.l:=congrArg Mth.code he;have h4:=(hz.mt m hm).code.1;have h5:=hN m' hm';rw[h3,h4]at h5;exact h5
theorem X5s {x:ClE} {w:World} {X:Nat→Prop} {k:Nat} (hx:ClX w X x) (hN:ClN k x):∀m∈x.mts.l,m.code.l.length≤k:=fun m hm=>by
 rw[(hx.mt m hm).code.1];exact(hN.mts.2 m hm).code
theorem Y4m (w:World) (hm0:∃m,w.cell? ⟨4,0,none⟩=some (.int .i64 m)) (x:ClE) (hx:ClX w (fun k=>k<w.heap.size) x) (kb:Nat) (hN:ClN kb x) (hkb:kb≤1048576) :
  Calls Tryz.prog 3 #[.agg (clA x)] w fun e w'=>e = .returned (.bool true)∧Below w.heap.size w w':=by
 have HX:=bx hx;have hN2:ClN 2000000 x:=hN.upW (by omega);have HN:=bx hN2;have hm:=hm_of hm0;have HM:=bx hm;have Ru:=bx (X5s hx hN2);have Mx:Bx ((x.pool.n:Int)≤140737488355328):=bx (by have:=hN2.pool.1;omega);obtain⟨g1,hg1⟩:∃g1,w.heap.size=g1:=⟨_,rfl⟩;have Pr:=bx (Bk.newAt w 27 (clA x) hg1);have Ri:=bx (Y9z (Below.refl w.heap.size w) (Z00 _) (.cells (clA x) 27));have Pp:=bx hg1;clear hx hN hkb hN2 hm hm0 hg1
 go_enter Tryz.func3,Tryz.ntmps3
 go_upto_region 1 with(fail)
 rw[Pp.out];change Code.wp _ _ _ _ (w.alloc (.cells (clA x) 27));generalize w.alloc (.cells (clA x) 27)=w0 at Pr Ri ⊢;have Xc:Bx (∀w',Below w.heap.size w w'→(4<w'.heap.size∧∃m,w'.cell? ⟨4,0,none⟩=some (.int .i64 m))):=bx (fun w' hb=>by obtain⟨h1,m,h2⟩:=HM.out;exact⟨Z07 h1 hb.size,m,(hb.cell (p:=⟨4,0,none⟩) h1).trans h2⟩);have Ge:=bx (X9o w0 (Xc.out w0 Ri.out));go_wp2_with fail
 refine Ge.out.mono ?_;rintro e w1 ⟨rfl,hb1⟩;have Zi:=bx (Ri.out.trans (hb1.mono Ri.out.size));have Ze:=bx (Pr.out.below hb1 Pr.out.lt);have Zu:=bx (HX.out.step (w':=w1) (Y:=fun k=>k<w1.heap.size) (fun k hk=>Zi.out.block k hk) (fun k hk=>Z07 hk Zi.out.size));have c6:w1.cell? ⟨g1,6,none⟩=some (.slice x.pool.A x.pool.n x.pool.c):=(Ze.out.cell 6).trans rfl;clear hb1 Ge Ri Pr Pp;by_cases hbig:(x.pool.n:Int)>1200
 ·go_wp2
  go_ret;exact⟨rfl,Zi.out⟩
 ·have Kb:=bx (Y5n x w1 Zu.out HN.out (Xc.out w1 Zi.out))
  go_upto_region 5 with(fail)
  clear hbig c6;obtain⟨R,hR⟩:∃R,makeK x.p x.pool.l=R:=⟨_,rfl⟩;have HR:=bx hR;clear hR;go_wp2_with (refine wpList_load_row rfl 27 (.tmp 1) rfl g1 rfl _ (clA x) _ _ Ze.out Tryz.underlying27 rfl Y9l ?_)
  refine Kb.out.mono ?_;intro e w2 ho;clear Kb;unfold MakePost MakeQ at ho;rw[HR.out]at ho;cases R with
  | none=>obtain⟨rfl,hb2⟩:=ho;have hb3:=Y9z (Zi.out.trans (hb2.mono Zi.out.size)) (Z00 _) (.cells imZ 33);have Xy:=bx hb3;clear hb2 hb3 Zi Ze Zu;unfold imZ at Xy ⊢;go_wp2;go_ret;exact⟨rfl,Xy.out⟩
  | some M=>
   obtain⟨⟨gk,gm,V,y,hyp,hV,-,-,-,has,haA,han,hac,hS,rfl⟩,hb2⟩:=ho;have hrm2:=X4m hS hV has haA han hac;obtain⟨hM1,_,hM2⟩:=X2k HR.out;have Di:Bx (y.p=M):=bx hyp;have Da:Bx (ofP y.p=some x.p):=bx (by rw[hyp];exact hM2);have T7:Bx (∃R,y.pool=x.pool.l++R):=bx (by obtain⟨R,h⟩:=W6h x.p x.pool.l;refine⟨R,?_⟩;rw[←h,←hM1,←hyp];rfl)
   have HT:Bx (∀c∈y.pool,(-9223372036854775808≤c.tag∧c.tag≤9223372036854775807)∧c.text.length≤2000000):=bx (fun c hc=>by
    have:=hS.mkr.cb c hc
    exact⟨this.tag,this.text⟩)
   have Wm:Bx (numsOk y.p):=bx (fun c hc=>(hS.mkr.cb c hc).num);have hb20:=Zi.out.trans (hb2.mono Zi.out.size);obtain⟨g2,hg2⟩:∃g2,w2.heap.size=g2:=⟨_,rfl⟩;have hba:=Y9z (Below.refl w2.heap.size w2) (Z00 _) (.cells (imC y) 33);have hb3:=Y9z hb20 (Z00 _) (.cells (imC y) 33);have hk2:=Bk.newAt w2 33 (imC y) hg2;have hk1:=(Ze.out.below hb2 Ze.out.lt).alloc (.cells (imC y) 33);have hrm3:=hrm2.up hba;clear hS hV has haA han hac hyp hb20 hrm2 hb2 Ze Zi Zu hM1 hM2 HR;unfold imC at hba hb3 hk2 hk1 hrm3 ⊢;go_upto_region 8 with(fail)
   generalize w2.alloc _=w3 at hba hb3 hk2 hk1 hrm3 ⊢;have Kx:=bx (X8c y w3 hrm3 HT.out (Xc.out w3 hb3));have Xy:=bx hb3;have Ze:=bx hk1;have Zn:=bx hk2;have Vq:=bx hrm3;clear hb3 hk1 hk2 hba hrm3 hg2;go_wp2_with (refine wpList_load_row rfl 33 (.tmp 3) rfl g2 rfl _ (imC y) _ _ Zn.out Tryz.underlying33 rfl (by rw[Y7r];exact Y9q) ?_)
   refine Kx.out.mono ?_;intro e w4 ho;clear Kx;unfold OfPost OfQ at ho;rw[Da.out]at ho;obtain⟨⟨z,hz1,hz2,hz3,rfl⟩,hb4⟩:=ho;have hz2':z.pool.l=y.pool:=hz2;have hb40:=Xy.out.trans (hb4.mono Xy.out.size);obtain⟨g4,hg4⟩:∃g4,w4.heap.size=g4:=⟨_,rfl⟩;have hb45:=Y9z (Below.refl w4.heap.size w4) (Z00 _) (.cells (clA z) 27);have hb5:=Y9z hb40 (Z00 _) (.cells (clA z) 27);have hk4:=Bk.newAt w4 27 (clA z) hg4;have hk1:=(Ze.out.below hb4 Ze.out.lt).alloc (.cells (clA z) 27);have hk2:=(Zn.out.below hb4 Zn.out.lt).alloc (.cells (clA z) 27);have hr5:=(Vq.out.up hb4).up hb45;have hz5:=hz3.step (w':=w4.alloc (.cells (clA z) 27)) (Y:=fun k=>k<(w4.alloc (.cells (clA z) 27)).heap.size) (fun k hk=>hb45.block k hk.2) (fun k hk=>Z07 hk.2 hb45.size);have D6:=bx hz1;have X5:=bx hz2';clear hz1 hz2 hz2' hz3 hb4 hb40 hb45 Xy Ze Zn Vq;unfold clA strQ Sq.v at hb5 hk4 hk1 hk2 hr5 hz5 ⊢;go_upto_region 9 with(fail)
   generalize w4.alloc _=w5 at hb5 hk4 hk1 hk2 hr5 hz5 ⊢;have Yy:=bx hb5;have Zq:=bx hk4;have Ze:=bx hk1;have Zn:=bx hk2;have Vd:=bx hr5;have Px:=bx hz5;clear hb5 hk4 hk1 hk2 hr5 hz5 hg4;have Yf:=bx (HX.out.step (w':=w5) (Y:=fun k=>k<w5.heap.size) (fun k hk=>Yy.out.block k hk) (fun k hk=>Z07 hk Yy.out.size));have P7:=bx (X9g Px.out Ru.out D6.out)
   have Q0:Bx (∀w',Below w5.heap.size w5 w'→w'.cell? ⟨g1,0,none⟩=some (.int .i64 x.access)∧w'.cell? ⟨g1,1,none⟩=some (.string ⟨x.name.toArray⟩)∧w'.cell? ⟨g1,2,none⟩=some (.string ⟨x.super.toArray⟩)∧w'.cell? ⟨g1,3,none⟩=some (.slice x.ifs.A x.ifs.n x.ifs.c)∧w'.cell? ⟨g1,4,none⟩=some (.slice x.fls.A x.fls.n x.fls.c)∧w'.cell? ⟨g1,5,none⟩=some (.slice x.mts.A x.mts.n x.mts.c)∧w'.cell? ⟨g1,6,none⟩=some (.slice x.pool.A x.pool.n x.pool.c)∧w'.cell? ⟨g4,0,none⟩=some (.int .i64 z.access)∧w'.cell? ⟨g4,1,none⟩=some (.string ⟨z.name.toArray⟩)∧w'.cell? ⟨g4,2,none⟩=some (.string ⟨z.super.toArray⟩)∧w'.cell? ⟨g4,3,none⟩=some (.slice z.ifs.A z.ifs.n z.ifs.c)∧w'.cell? ⟨g4,4,none⟩=some (.slice z.fls.A z.fls.n z.fls.c)∧w'.cell? ⟨g4,5,none⟩=some (.slice z.mts.A z.mts.n z.mts.c)∧w'.cell? ⟨g4,6,none⟩=some (.slice z.pool.A z.pool.n z.pool.c)):=bx (fun w' hb=>by
    have e:=fun (g i:Nat) (hg:g<w5.heap.size)=>hb.cell (p:=⟨g,i,none⟩) hg;have l1:=Ze.out.lt;have l4:=Zq.out.lt
    exact⟨(e g1 0 l1).trans ((Ze.out.cell 0).trans rfl),(e g1 1 l1).trans ((Ze.out.cell 1).trans rfl),(e g1 2 l1).trans ((Ze.out.cell 2).trans rfl),(e g1 3 l1).trans ((Ze.out.cell 3).trans rfl),(e g1 4 l1).trans ((Ze.out.cell 4).trans rfl),(e g1 5 l1).trans ((Ze.out.cell 5).trans rfl),(e g1 6 l1).trans ((Ze.out.cell 6).trans rfl),
     (e g4 0 l4).trans ((Zq.out.cell 0).trans rfl),(e g4 1 l4).trans ((Zq.out.cell 1).trans rfl),(e g4 2 l4).trans ((Zq.out.cell 2).trans rfl),(e g4 3 l4).trans ((Zq.out.cell 3).trans rfl),(e g4 4 l4).trans ((Zq.out.cell 4).trans rfl),(e g4 5 l4).trans ((Zq.out.cell 5).trans rfl),(e g4 6 l4).trans ((Zq.out.cell 6).trans rfl)⟩)
   have HAL:Bx (Calls Tryz.prog 10 #[.agg (clA x),.agg (clA z)] w5.drew fun e w'=>e = .returned (.bool true)∧Below w5.drew.heap.size w5.drew w'):=bx (by
    have h:=X1m x z w5.drew (Yf.out.step (fun _ _=>rfl) (fun _ hk=>hk)) (Px.out.step (fun _ _=>rfl) (fun _ hk=>hk)) (fun m hm=>by have:=Ru.out m hm;have h2:=(HX.out.mt m hm).code.1;omega) (fun m hm=>by have:=P7.out m hm;omega)
    rwa [show decide (x.p=z.p)=true from Z46 D6.out.symm]at h)
   have Wq:Bx (z.pool.l.take x.pool.n=x.pool.l):=bx (by obtain⟨R,h⟩:=T7.out;rw[X5.out,h,←HX.out.pool.1];exact List.take_left);have hlen:x.pool.n≤z.pool.n:=by obtain⟨R,h⟩:=T7.out;have h1:=Px.out.pool.1;have h2:=HX.out.pool.1;have h3:=congrArg List.length h;rw[Z08]at h3;have h4:=congrArg List.length X5.out;omega
   have hlenI:¬((z.pool.n:Int)<(x.pool.n:Int)):=(by omega);have hcapI:(x.pool.n:Int)≤(z.pool.c:Int):=by have:=Px.out.pool.2.1;omega
   have hn0I:(0:Int)≤(x.pool.n:Int):=by omega
   have Z3:Bx (∀w',Below w5.heap.size w5 w'→Calls Tryz.prog 11 #[.slice x.pool.A x.pool.n x.pool.c,.slice z.pool.A x.pool.n z.pool.c] w' fun e w2=>e = .returned (.bool true)∧∃q,w2=w'.drewN q):=bx (fun w' hb=>by
    have a:=Y9d Yf.out.pool hb;have b:=Y9d Px.out.pool hb
    have hr:RS cstC w' w'.heap.size z.pool.A (z.pool.l.take x.pool.n):=fun hn=>by
     obtain⟨ad,e1,e2,e3⟩:=b.2.2 (fun e0=>hn (by
      have h1:z.pool.l=[]:=by
       cases hz:z.pool.l with
       | nil=>rfl
       | cons c r=>rw[hz]at e0;cases e0
      rw[h1];simp))
     refine⟨ad,e1,e2,fun i u hu=>e3 i u ?_⟩;have h2:(z.pool.l.flatMap cstC)=(z.pool.l.take x.pool.n).flatMap cstC++(z.pool.l.drop x.pool.n).flatMap cstC:=(by rw[←Z29,List.take_append_drop]);rw[h2,List.getElem?_append_left (Z24.1 hu).1];exact hu
    have h:=Y6t x.pool.A z.pool.A x.pool.n x.pool.c x.pool.n z.pool.c x.pool.l (z.pool.l.take x.pool.n) w' a.1 (by rw[Wq.out];exact a.1) Mx.out Mx.out a.2.2 hr
    rwa [show decide (x.pool.l=z.pool.l.take x.pool.n)=true from Z46 Wq.out.symm]at h)
   have hS0:=Q0.out w5.drew (below_drewN (Below.refl _ w5) 1);refine Y4k (fun w'=>w'.cell? ⟨g1,0,none⟩=some (.int .i64 x.access)∧w'.cell? ⟨g1,1,none⟩=some (.string ⟨x.name.toArray⟩)∧w'.cell? ⟨g1,2,none⟩=some (.string ⟨x.super.toArray⟩)∧w'.cell? ⟨g1,3,none⟩=some (.slice x.ifs.A x.ifs.n x.ifs.c)∧w'.cell? ⟨g1,4,none⟩=some (.slice x.fls.A x.fls.n x.fls.c)∧w'.cell? ⟨g1,5,none⟩=some (.slice x.mts.A x.mts.n x.mts.c)∧w'.cell? ⟨g1,6,none⟩=some (.slice x.pool.A x.pool.n x.pool.c)∧w'.cell? ⟨g4,0,none⟩=some (.int .i64 z.access)∧w'.cell? ⟨g4,1,none⟩=some (.string ⟨z.name.toArray⟩)∧w'.cell? ⟨g4,2,none⟩=some (.string ⟨z.super.toArray⟩)∧w'.cell? ⟨g4,3,none⟩=some (.slice z.ifs.A z.ifs.n z.ifs.c)∧w'.cell? ⟨g4,4,none⟩=some (.slice z.fls.A z.fls.n z.fls.c)∧w'.cell? ⟨g4,5,none⟩=some (.slice z.mts.A z.mts.n z.mts.c)∧w'.cell? ⟨g4,6,none⟩=some (.slice z.pool.A z.pool.n z.pool.c)) [5,20,2] (by kernel_rfl) (by kernel_rfl) (by kernel_rfl) (hS0) (fun _ _ _ d _ h=>by cases d <;> exact h) ?_;unfold wpSegs;simp only[List.take_succ_cons,List.take_zero];refine Y5h (fun R1 hR1=>?_)
   iterate 5 (refine Y4v (fun K hK=>?_);rw[if_pos (by kernel_rfl)];apply Exists.intro;refine⟨fun w hSw=>?_,hK.out _ ?_⟩;(· ((try dsimp only at hSw);go_simp;first | done | with_reducible rfl));clear hK K;(try simp only[Act.put,Z04,Z05,Z06]))
   refine Y5z ?_;refine hR1.out _ ?_;clear hR1 R1;dsimp only[List.drop];rw[if_pos (by kernel_rfl)];refine Y2k (fun K hK=>?_);go_simp
   (go_at_call 10;refine HAL.out.mono ?_;rintro e w6 ⟨rfl,hb6⟩)
   have hb6:=(below_drewN (Below.refl _ w5) 1).trans hb6;have hS1:=Q0.out w6 hb6;refine hK.out _ _ ⟨hS1,?_⟩;clear hK K
   try simp only[Act.put,Z04,Z05,Z06]
   unfold wpSegs;simp only[List.take_succ_cons,List.take_zero];refine Y5h (fun R1 hR1=>?_)
   iterate 20 (refine Y4v (fun K hK=>?_);rw[if_pos (by kernel_rfl)];apply Exists.intro;refine⟨fun w hSw=>?_,hK.out _ ?_⟩;(· ((try dsimp only at hSw);go_simp;first | done | with_reducible rfl));clear hK K;(try simp only[Act.put,Z04,Z05,Z06]))
   refine Y5z ?_;refine hR1.out _ ?_;clear hR1 R1;dsimp only[List.drop];rw[if_pos (by kernel_rfl)];refine Y2k (fun K hK=>?_);go_simp
   (go_at_call 11;refine(Z3.out w6 hb6).mono ?_;rintro e w7 ⟨rfl,q,rfl⟩)
   have hS2:=Q0.out (w6.drewN q) (below_drewN hb6 q);refine hK.out _ _ ⟨hS2,?_⟩;clear hK K
   try simp only[Act.put,Z04,Z05,Z06]
   unfold wpSegs;simp only[List.take_succ_cons,List.take_zero];refine Y5h (fun R1 hR1=>?_)
   iterate 2 (refine Y4v (fun K hK=>?_);rw[if_pos (by kernel_rfl)];apply Exists.intro;refine⟨fun w hSw=>?_,hK.out _ ?_⟩;(· ((try dsimp only at hSw);go_simp;first | done | with_reducible rfl));clear hK K;(try simp only[Act.put,Z04,Z05,Z06]))
   refine Y5z ?_;refine hR1.out _ ?_;clear hR1 R1;dsimp only[List.drop];have hb7:Below w5.heap.size w5 (w6.drewN q):=below_drewN hb6 q;clear hS0 hS1 hS2 hlenI hcapI hn0I hlen Z3 HAL;generalize w6.drewN q=w7 at hb7 ⊢;have Xn:=bx (Yy.out.trans (hb7.mono Yy.out.size));have Xw:=bx (Zn.out.below hb7 Zn.out.lt);have Cz:=bx (Zq.out.below hb7 Zq.out.lt);have Tu:=bx (Vd.out.up hb7);have Tr:=bx (Px.out.step (w':=w7) (Y:=fun k=>k<w7.heap.size) (fun k hk=>hb7.block k hk) (fun k hk=>Z07 hk hb7.size));have Cw:=bx (X4h y w7 Tu.out HT.out);obtain⟨WR,hWR⟩:∃WR,writeP y.p=WR:=⟨_,rfl⟩;rw[hWR]at Cw;have Cf:=bx hWR;clear hb6 hb7 hWR Yy Ze Zn Zq Vd Px Yf Q0;go_wp2_with (refine wpList_load_row rfl 33 (.tmp 3) rfl g2 rfl _ (imC y) _ _ Xw.out Tryz.underlying33 rfl (by rw[Y7r];exact Y9q) ?_)
   refine Cw.out.mono ?_;intro e w8 hp;clear Cw;cases WR with
   | err k=>obtain⟨rfl,_,hb8⟩:=kwErr hp rfl;have Vg:=bx (Xn.out.trans (hb8.mono Xn.out.size));obtain rfl:k=8:=W3v (by rw[Da.out];rfl) Cf.out;clear hp hb8;go_wp2;go_ret;exact⟨rfl,Vg.out⟩
   | ok o=>
    obtain⟨A8,n8,c8,rfl,hn8,hr8,hl8,hb8⟩:=kwOk hp rfl;have Vg:=bx (Xn.out.trans (hb8.mono Xn.out.size));have HZ8:=bx (Tr.out.step (w':=w8) (Y:=fun k=>k<w8.heap.size) (fun k hk=>hb8.block k hk) (fun k hk=>Z07 hk hb8.size));have Cy:=bx (Cz.out.below hb8 Cz.out.lt);have Na:=bx (Y2b A8 n8 c8 o w8 hn8.out.symm (by rw[hn8.out];omega) hr8 (Xc.out w8 Vg.out));rw[X9n Wm.out Cf.out]at Na;clear hp hb8 hr8 hl8 hn8 Xn Xw Cz Tu Tr;go_wp2_with fail
    refine Na.out.mono ?_;intro e w9 ho;clear Na;obtain⟨hb9,ho⟩:=ho;dsimp only at ho;rw[Da.out]at ho;obtain⟨v,hv1,hv2,hv3,rfl⟩:=ho;have hv2':v.pool.l=y.pool:=hv2;obtain⟨g9,hg9⟩:∃g9,w9.heap.size=g9:=⟨_,rfl⟩;have hb99:=Y9z (Below.refl w9.heap.size w9) (Z00 _) (.cells (clA v) 27);have Jp:=bx (Y9z (Vg.out.trans (hb9.mono Vg.out.size)) (Z00 _) (.cells (clA v) 27));have Vy:=bx (Bk.newAt w9 27 (clA v) hg9);have Zq:=bx ((Cy.out.below hb9 Cy.out.lt).alloc (.cells (clA v) 27));have Yw:=bx (HZ8.out.step (w':=w9) (Y:=fun k=>k<w9.heap.size) (fun k hk=>hb9.block k hk) (fun k hk=>Z07 hk hb9.size));have Jo:=bx (Yw.out.step (w':=w9.alloc (.cells (clA v) 27)) (Y:=fun k=>k<(w9.alloc (.cells (clA v) 27)).heap.size) (fun k hk=>hb99.block k hk) (fun k hk=>Z07 hk hb99.size));have Lr:=bx (hv3.step (w':=w9.alloc (.cells (clA v) 27)) (Y:=fun k=>k<(w9.alloc (.cells (clA v) 27)).heap.size) (fun k hk=>hb99.block k hk.2) (fun k hk=>Z07 hk.2 hb99.size));have HVP:Bx (v.p=z.p):=bx (by rw[hv1,D6.out]);have R6:Bx (v.pool.l=z.pool.l):=bx (by rw[hv2',X5.out]);have Bp:=bx (X9g hv3 Ru.out hv1)
    have HVN:Bx ((v.pool.n:Int)≤140737488355328∧(z.pool.n:Int)≤140737488355328):=bx (by
     have h1:=hv3.pool.1;have h2:=Jo.out.pool.1;have h3:=congrArg List.length R6.out
     have h4:y.pool.length≤100000000:=by
      have:=(X1l Wm.out (X1f Cf.out).1)
      obtain⟨_,_,⟨pl,hp,hpl,_⟩,_⟩:=this;have e:y.pool=cst0::pl:=hp;rw[e,Z13];omega
     have h5:=congrArg List.length hv2';omega)
    clear hb9 hb99 hv1 hv2 hv2' hv3 Vg Cy HZ8 Yw;unfold clA strQ Sq.v at Jp Vy Zq Jo Lr ⊢;go_upto_region 15 with(fail)
    generalize w9.alloc _=w10 at Jp Vy Zq Jo Lr ⊢;clear hg9;have Qz:=bx (X2u v z w10 Lr.out Jo.out (fun m hm=>by have:=Bp.out m hm;omega) (fun m hm=>by have:=P7.out m hm;omega) HVN.out.1 HVN.out.2);rw[show decide (v.p=z.p)=true from Z46 HVP.out,show decide (v.pool.l=z.pool.l)=true from Z46 R6.out]at Qz;have e0:=Vy.out.cell 0;have e1:=Vy.out.cell 1;have e2:=Vy.out.cell 2;have e3:=Vy.out.cell 3;have e4:=Vy.out.cell 4;have e5:=Vy.out.cell 5;have e6:=Vy.out.cell 6;have f0:=Zq.out.cell 0;have f1:=Zq.out.cell 1;have f2:=Zq.out.cell 2;have f3:=Zq.out.cell 3;have f4:=Zq.out.cell 4;have f5:=Zq.out.cell 5;have f6:=Zq.out.cell 6;simp only[Z17,Z16,List.getElem?_cons_succ]at e0 e1 e2 e3 e4 e5 e6 f0 f1 f2 f3 f4 f5 f6;go_wp2_with (go_at_call 14;refine Qz.out.mono ?_;rintro e w11 ⟨rfl,hb11⟩)
    go_ret;exact⟨rfl,Jp.out.trans (hb11.mono Jp.out.size)⟩
end Go.Proofs.YtpmfiegfbmamiaaGreatDoor
