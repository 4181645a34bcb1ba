/- Contract: klass.Read. -/
import Derived.Test.YtpmfiegfbmamiaaDoorPm14
import Derived.Test.YtpmfiegfbmamiaaDoorPm17
namespace Go.Proofs.YtpmfiegfbmamiaaDoor
set_option maxRecDepth 100000
set_option maxHeartbeats 8000000
open Go.RowKit
set_option linter.unusedSimpArgs false
def KReadPost (R:Rz Img) (w:World) (e:Ending) (w':World):Prop:=Below w.heap.size w w'∧match R with
 | .err k=>e = .returned (.tuple #[.agg z7,.int .i64 k])∧k≠0
 | .ok m=>match ofP m with
  | some c=>∃y:ClE,y.p=c∧y.pool.l=m.pool∧ClX w' (Nw w w') y∧e = .returned (.tuple #[.agg (clA y),.int .i64 0])
  | none=>e = .returned (.tuple #[.agg z7,.int .i64 24])
theorem X5j {b:List UInt8} {m:Img} (h:parseP b = .ok m):∀c∈m.pool,(-9223372036854775808≤c.tag∧c.tag≤9223372036854775807)∧c.text.length≤2000000:=Y2r (W9v h).2.2.2.2
theorem X2w (A:Option Addr) (n c:Nat) (b:List UInt8) (w:World) (hn:b.length=n) (hz:(n:Int)≤140737488355328) (hr:RB w w.heap.size A b) (hm:0<w.heap.size∧∃m,w.cell? ⟨0,0,none⟩=some (.int .i64 m)) :
  Calls Tryd.prog 8 #[.slice A n c] w (KReadPost (parseP b) w):=by
 obtain⟨R,hR⟩:∃R,parseP b=R:=⟨_,rfl⟩;rw[hR];have HR:=bx hR;have hb1:=Y9z (Below.refl w.heap.size w) (Z00 _) (.cells z7 27);have hr1:=hr.step hb1;obtain⟨g2,hg2⟩:∃g2,w.heap.size=g2:=⟨_,rfl⟩;have hk1:=Bk.newAt w 27 z7 hg2;have hm1:0<w.heap.size∧∃m,w.cell? ⟨0,0,none⟩=some (.int .i64 m):=hm;have Zc:Bx (w.heap.size≤g2):=bx (Z32 hg2);obtain⟨w1,hw1⟩:∃w1,w.alloc (.cells z7 27)=w1:=⟨_,rfl⟩;rw[hw1]at hb1 hr1 hk1;have hw1':w.alloc (.cells #[.int .i64 0,.string ⟨#[]⟩,.string ⟨#[]⟩,.slice none 0 0,.slice none 0 0,.slice none 0 0,.slice none 0 0] 27)=w1:=hw1;have Zl:=bx hb1;have Yz:=bx hk1;have HM:=bx hm;have HP:=bx (X3q A n c b w1 hn hz hr1);rw[hR]at HP;clear hb1 hr1 hk1 hm hm1 hn hz hr hR hw1
 go_enter Tryd.func8,Tryd.ntmps8
 go_upto_region 1 with(fail)
 clear hw1' hg2;go_wp2_with fail
 refine HP.out.mono ?_;intro e w2 hp;clear HP;cases R with
 | err k=>
  obtain⟨hb2,rfl,hk0⟩:=hp;have hkI:(k != 0)=true:=by rw[bne_iff_ne];exact hk0
  have Ps:=bx hk0;have Wm:=bx (Zl.out.trans (hb2.mono Zl.out.size));have Zj:=bx (Yz.out.below hb2 Yz.out.lt);have hb3:=Y9z Wm.out (Z00 _) (.cells imZ 34);have hk3:=Zj.out.alloc (.cells imZ 34);unfold imZ;clear hb2 hk0 Zl Yz;go_upto_region 3 with(fail)
  change Code.wp _ _ _ _ (w2.alloc (.cells imZ 34));generalize w2.alloc (.cells imZ 34)=w3 at hb3 hk3 ⊢;have Xv:=bx hb3;have Zo:=bx hk3;clear hb3 hk3 Wm Zj;go_wp2_with (first | (refine wpList_store_row rfl 27 (.tmp 2) (.tmp 13) rfl g2 z7 rfl rfl 27 z7 Zo.out Y9h rfl X9s ?_))
  have d:=Zo.out.setRow z7;have d0:=d.cell 0;have d1:=d.cell 1;have d2:=d.cell 2;have d3:=d.cell 3;have d4:=d.cell 4;have d5:=d.cell 5;have d6:=d.cell 6;simp only[z7,Z19,List.getElem?_cons_zero,Z21]at d0 d1 d2 d3 d4 d5 d6;refine⟨rfl,.tuple #[.agg z7,.int .i64 k],by simp [z7,results,Tryd.results8,go_sem,d0,d1,d2,d3,d4,d5,d6],?_⟩;exact⟨bl_setRow Xv.out Zc.out _,rfl,Ps.out⟩
 | ok m=>
  obtain⟨hb2,x,hxp,rfl,hrm2⟩:=hp;have HT:Bx (∀c∈x.pool,(-9223372036854775808≤c.tag∧c.tag≤9223372036854775807)∧c.text.length≤2000000):=bx (by have h:=X5j HR.out;rw[←hxp]at h;exact h);subst hxp;have hb20:=Zl.out.trans (hb2.mono Zl.out.size);obtain⟨g4,hg4⟩:∃g4,w2.heap.size=g4:=⟨_,rfl⟩;have hba:=Y9z (Below.refl w2.heap.size w2) (Z00 _) (.cells (imC x) 34);have Xv:=bx (Y9z hb20 (Z00 _) (.cells (imC x) 34));have hk2:=Yz.out.below hb2 Yz.out.lt;have Zo:=bx (hk2.alloc (.cells (imC x) 34));have Qm:=bx (Bk.newAt w2 34 (imC x) hg4);have hrm3:=hrm2.up hba;have Lh:=bx hg4;obtain⟨w3,hw3⟩:∃w3,w2.alloc (.cells (imC x) 34)=w3:=⟨_,rfl⟩;rw[hw3]at Xv Zo Qm hrm3;have HO:=bx (X9e x w3 hrm3 HT.out (by obtain⟨h1,m,h2⟩:=HM.out;exact⟨Z07 h1 Xv.out.size,m,(Xv.out.cell (p:=⟨0,0,none⟩) h1).trans h2⟩));clear hb2 hb20 hrm2 hba hrm3 hk2 Zl Yz HT hg4;have T6:=bx hw3;clear hw3;unfold imC;go_upto_region 4 with(fail)
  rw[Lh.out];change Code.wp _ _ _ _ (w2.alloc (.cells (imC x) 34));rw[T6.out];clear T6 Lh;obtain⟨V,hV⟩:∃V,ofP x.p=V:=⟨_,rfl⟩;have HV:=bx hV;clear hV;go_wp2_with (refine wpList_load_row rfl 34 (.tmp 4) rfl g4 rfl _ (imC x) _ _ Qm.out Tryd.underlying34 rfl (by rw[Y6m];exact Y9p) ?_)
  refine HO.out.mono ?_;intro e w4 ho;unfold OfPost OfQ at ho;rw[HV.out]at ho;have Zk:=bx (Zo.out.below ho.2 Zo.out.lt);have Yj:=bx (Xv.out.trans (ho.2.mono Xv.out.size));have Xp:=bx Xv.out.size;have Lg:=bx Zo.out.lt;clear HO Qm;cases V with
  | none=>
   obtain⟨rfl,hb4⟩:=ho;clear hb4;go_wp2_with (refine wpList_store_row rfl 27 (.tmp 2) (.tmp 17) rfl g2 z7 rfl rfl 27 z7 Zk.out Y9h rfl X9s ?_)
   have d:=Zk.out.setRow z7;have d0:=d.cell 0;have d1:=d.cell 1;have d2:=d.cell 2;have d3:=d.cell 3;have d4:=d.cell 4;have d5:=d.cell 5;have d6:=d.cell 6;simp only[z7,Z19,List.getElem?_cons_zero,Z21]at d0 d1 d2 d3 d4 d5 d6;refine⟨rfl,.tuple #[.agg z7,.int .i64 24],by simp [z7,results,Tryd.results8,go_sem,d0,d1,d2,d3,d4,d5,d6],?_⟩;refine⟨bl_setRow Yj.out Zc.out _,?_⟩;dsimp only;rw[HV.out]
  | some cl=>
   obtain⟨⟨y,hy1,hy2,hy3,rfl⟩,hb4⟩:=ho;have HY:=bx (And.intro hy1 (And.intro hy2 hy3));clear hb4 hy1 hy2 hy3;go_wp2_with (refine wpList_store_row rfl 27 (.tmp 2) (.tmp 17) rfl g2 (clA y) rfl rfl 27 z7 Zk.out Y9h rfl (W8u y) ?_)
   have d:=Zk.out.setRow (clA y);have d0:=d.cell 0;have d1:=d.cell 1;have d2:=d.cell 2;have d3:=d.cell 3;have d4:=d.cell 4;have d5:=d.cell 5;have d6:=d.cell 6;simp only[clA,Z19,List.getElem?_cons_zero,Z21]at d0 d1 d2 d3 d4 d5 d6;refine⟨rfl,.tuple #[.agg (clA y),.int .i64 0],by simp [clA,results,Tryd.results8,go_sem,d0,d1,d2,d3,d4,d5,d6],?_⟩;refine⟨bl_setRow Yj.out Zc.out _,?_⟩;dsimp only;rw[HV.out];have hch:=Y9t w4 g2 (clA y);have h1:=Xp.out;have h2:=Lg.out;exact⟨y,HY.out.1,HY.out.2.1,HY.out.2.2.step (fun k hk=>hch.same k hk.2 (fun e=>by have:=hk.1;have e:k=g2:=e;omega)) (fun k hk=>⟨Z08 h1 hk.1,Z07 hk.2 hch.size⟩),rfl⟩
end Go.Proofs.YtpmfiegfbmamiaaDoor
