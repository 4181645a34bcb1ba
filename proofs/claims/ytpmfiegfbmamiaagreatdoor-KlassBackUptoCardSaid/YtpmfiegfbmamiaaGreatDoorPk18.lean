/- Contract: klass.Read. -/
import Derived.Test.YtpmfiegfbmamiaaGreatDoorPk14
import Derived.Test.YtpmfiegfbmamiaaGreatDoorPk17
namespace Go.Proofs.YtpmfiegfbmamiaaGreatDoor
set_option maxRecDepth 100000
set_option maxHeartbeats 8000000
open Go.RowKit
set_option linter.unusedSimpArgs false
def KReadPost (R:Rz Img) (w:World) (e:Ending) (w':World):Prop:=Below w.heap.size w w'∧match R with
 | .err k=>e = .returned (.tuple #[.agg z7,.int .i64 k])∧k≠0
 | .ok m=>match ofP m with
  | some c=>∃y:ClE,y.p=c∧y.pool.l=m.pool∧ClX w' (Nw w w') y∧e = .returned (.tuple #[.agg (clA y),.int .i64 0])
  | none=>e = .returned (.tuple #[.agg z7,.int .i64 24])
theorem X5x {b:List UInt8} {m:Img} (h:parseP b = .ok m):∀c∈m.pool,(-9223372036854775808≤c.tag∧c.tag≤9223372036854775807)∧c.text.length≤2000000:=Y1j (X1d h).2.2.2.2
theorem Y2b (A:Option Addr) (n c:Nat) (b:List UInt8) (w:World) (hn:b.length=n) (hz:(n:Int)≤140737488355328) (hr:RB w w.heap.size A b) (hm:4<w.heap.size∧∃m,w.cell? ⟨4,0,none⟩=some (.int .i64 m)) :
  Calls Tryz.prog 13 #[.slice A n c] w (KReadPost (parseP b) w):=by
 obtain⟨R,hR⟩:∃R,parseP b=R:=⟨_,rfl⟩;rw[hR];have HR:=bx hR;have hb1:=Y9z (Below.refl w.heap.size w) (Z00 _) (.cells z7 27);have hr1:=hr.step hb1;obtain⟨g2,hg2⟩:∃g2,w.heap.size=g2:=⟨_,rfl⟩;have hk1:=Bk.newAt w 27 z7 hg2;have hm1:4<w.heap.size∧∃m,w.cell? ⟨4,0,none⟩=some (.int .i64 m):=hm;have Zd:Bx (w.heap.size≤g2):=bx (Z34 hg2);obtain⟨w1,hw1⟩:∃w1,w.alloc (.cells z7 27)=w1:=⟨_,rfl⟩;rw[hw1]at hb1 hr1 hk1;have hw1':w.alloc (.cells #[.int .i64 0,.string ⟨#[]⟩,.string ⟨#[]⟩,.slice none 0 0,.slice none 0 0,.slice none 0 0,.slice none 0 0] 27)=w1:=hw1;have Zi:=bx hb1;have Ze:=bx hk1;have HM:=bx hm;have HP:=bx (X5v A n c b w1 hn hz hr1);rw[hR]at HP;clear hb1 hr1 hk1 hm hm1 hn hz hr hR hw1
 go_enter Tryz.func13,Tryz.ntmps13
 go_upto_region 1 with(fail)
 clear hw1' hg2;go_wp2_with fail
 refine HP.out.mono ?_;intro e w2 hp;clear HP;cases R with
 | err k=>
  obtain⟨hb2,rfl,hk0⟩:=hp;have hkI:(k != 0)=true:=by rw[bne_iff_ne];exact hk0
  have Pr:=bx hk0;have Wj:=bx (Zi.out.trans (hb2.mono Zi.out.size));have Zn:=bx (Ze.out.below hb2 Ze.out.lt);have hb3:=Y9z Wj.out (Z00 _) (.cells imZ 33);have hk3:=Zn.out.alloc (.cells imZ 33);unfold imZ;clear hb2 hk0 Zi Ze;go_upto_region 3 with(fail)
  change Code.wp _ _ _ _ (w2.alloc (.cells imZ 33));generalize w2.alloc (.cells imZ 33)=w3 at hb3 hk3 ⊢;have Xy:=bx hb3;have Zm:=bx hk3;clear hb3 hk3 Wj Zn;go_wp2_with (first | (refine wpList_store_row rfl 27 (.tmp 2) (.tmp 13) rfl g2 z7 rfl rfl 27 z7 Zm.out Y9l rfl X8y ?_))
  have d:=Zm.out.setRow z7;have d0:=d.cell 0;have d1:=d.cell 1;have d2:=d.cell 2;have d3:=d.cell 3;have d4:=d.cell 4;have d5:=d.cell 5;have d6:=d.cell 6;simp only[z7,Z17,Z16,List.getElem?_cons_succ]at d0 d1 d2 d3 d4 d5 d6;refine⟨rfl,.tuple #[.agg z7,.int .i64 k],by simp [z7,results,Tryz.results13,go_sem,d0,d1,d2,d3,d4,d5,d6],?_⟩;exact⟨bl_setRow Xy.out Zd.out _,rfl,Pr.out⟩
 | ok m=>
  obtain⟨hb2,x,hxp,rfl,hrm2⟩:=hp;have HT:Bx (∀c∈x.pool,(-9223372036854775808≤c.tag∧c.tag≤9223372036854775807)∧c.text.length≤2000000):=bx (by have h:=X5x HR.out;rw[←hxp]at h;exact h);subst hxp;have hb20:=Zi.out.trans (hb2.mono Zi.out.size);obtain⟨g4,hg4⟩:∃g4,w2.heap.size=g4:=⟨_,rfl⟩;have hba:=Y9z (Below.refl w2.heap.size w2) (Z00 _) (.cells (imC x) 33);have Xy:=bx (Y9z hb20 (Z00 _) (.cells (imC x) 33));have hk2:=Ze.out.below hb2 Ze.out.lt;have Zm:=bx (hk2.alloc (.cells (imC x) 33));have Nz:=bx (Bk.newAt w2 33 (imC x) hg4);have hrm3:=hrm2.up hba;have Lh:=bx hg4;obtain⟨w3,hw3⟩:∃w3,w2.alloc (.cells (imC x) 33)=w3:=⟨_,rfl⟩;rw[hw3]at Xy Zm Nz hrm3;have HO:=bx (X8c x w3 hrm3 HT.out (by obtain⟨h1,m,h2⟩:=HM.out;exact⟨Z07 h1 Xy.out.size,m,(Xy.out.cell (p:=⟨4,0,none⟩) h1).trans h2⟩));clear hb2 hb20 hrm2 hba hrm3 hk2 Zi Ze HT hg4;have HW3:=bx hw3;clear hw3;unfold imC;go_upto_region 4 with(fail)
  rw[Lh.out];change Code.wp _ _ _ _ (w2.alloc (.cells (imC x) 33));rw[HW3.out];clear HW3 Lh;obtain⟨V,hV⟩:∃V,ofP x.p=V:=⟨_,rfl⟩;have HV:=bx hV;clear hV;go_wp2_with (refine wpList_load_row rfl 33 (.tmp 4) rfl g4 rfl _ (imC x) _ _ Nz.out Tryz.underlying33 rfl (by rw[Y7r];exact Y9q) ?_)
  refine HO.out.mono ?_;intro e w4 ho;unfold OfPost OfQ at ho;rw[HV.out]at ho;have Zq:=bx (Zm.out.below ho.2 Zm.out.lt);have Ye:=bx (Xy.out.trans (ho.2.mono Xy.out.size));have Yg:=bx Xy.out.size;have Nf:=bx Zm.out.lt;clear HO Nz;cases V with
  | none=>
   obtain⟨rfl,hb4⟩:=ho;clear hb4;go_wp2_with (refine wpList_store_row rfl 27 (.tmp 2) (.tmp 17) rfl g2 z7 rfl rfl 27 z7 Zq.out Y9l rfl X8y ?_)
   have d:=Zq.out.setRow z7;have d0:=d.cell 0;have d1:=d.cell 1;have d2:=d.cell 2;have d3:=d.cell 3;have d4:=d.cell 4;have d5:=d.cell 5;have d6:=d.cell 6;simp only[z7,Z17,Z16,List.getElem?_cons_succ]at d0 d1 d2 d3 d4 d5 d6;refine⟨rfl,.tuple #[.agg z7,.int .i64 24],by simp [z7,results,Tryz.results13,go_sem,d0,d1,d2,d3,d4,d5,d6],?_⟩;refine⟨bl_setRow Ye.out Zd.out _,?_⟩;dsimp only;rw[HV.out]
  | some cl=>
   obtain⟨⟨y,hy1,hy2,hy3,rfl⟩,hb4⟩:=ho;have HY:=bx (And.intro hy1 (And.intro hy2 hy3));clear hb4 hy1 hy2 hy3;go_wp2_with (refine wpList_store_row rfl 27 (.tmp 2) (.tmp 17) rfl g2 (clA y) rfl rfl 27 z7 Zq.out Y9l rfl (W8f y) ?_)
   have d:=Zq.out.setRow (clA y);have d0:=d.cell 0;have d1:=d.cell 1;have d2:=d.cell 2;have d3:=d.cell 3;have d4:=d.cell 4;have d5:=d.cell 5;have d6:=d.cell 6;simp only[clA,Z17,Z16,List.getElem?_cons_succ]at d0 d1 d2 d3 d4 d5 d6;refine⟨rfl,.tuple #[.agg (clA y),.int .i64 0],by simp [clA,results,Tryz.results13,go_sem,d0,d1,d2,d3,d4,d5,d6],?_⟩;refine⟨bl_setRow Ye.out Zd.out _,?_⟩;dsimp only;rw[HV.out];have hch:=Y9t w4 g2 (clA y);have h1:=Yg.out;have h2:=Nf.out;exact⟨y,HY.out.1,HY.out.2.1,HY.out.2.2.step (fun k hk=>hch.same k hk.2 (fun e=>by have:=hk.1;have e:k=g2:=e;omega)) (fun k hk=>⟨Z09 h1 hk.1,Z07 hk.2 hch.size⟩),rfl⟩
end Go.Proofs.YtpmfiegfbmamiaaGreatDoor
