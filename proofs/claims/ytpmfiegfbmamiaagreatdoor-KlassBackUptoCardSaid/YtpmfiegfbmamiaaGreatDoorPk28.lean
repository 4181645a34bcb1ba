/- Contract: the law's same (samovarlaw15). -/
import Derived.Test.YtpmfiegfbmamiaaGreatDoorPk27
import Derived.Test.YtpmfiegfbmamiaaGreatDoorPk7
import Derived.Test.YtpmfiegfbmamiaaGreatDoorPk14
namespace Go.Proofs.YtpmfiegfbmamiaaGreatDoor
set_option maxRecDepth 100000
set_option maxHeartbeats 8000000
open Go.RowKit
set_option linter.unusedSimpArgs false
theorem X2u (x y:ClE) (w:World) (hx:ClX w (fun k=>k<w.heap.size) x) (hy:ClX w (fun k=>k<w.heap.size) y) (hcx:∀m∈x.mts.l,m.code.n≤1000000000) (hcy:∀m∈y.mts.l,m.code.n≤1000000000) (hpx:(x.pool.n:Int)≤140737488355328) (hpy:(y.pool.n:Int)≤140737488355328) :
    Calls Tryz.prog 14 #[.agg (clA x),.agg (clA y)] w fun e w'=>e = .returned (.bool (decide (x.p=y.p)&&decide (x.pool.l=y.pool.l)))∧Below w.heap.size w w':=by
  obtain⟨b1,hb1e⟩:∃b1,decide (x.p=y.p)=b1:=⟨_,rfl⟩;obtain⟨b2,hb2e⟩:∃b2,decide (x.pool.l=y.pool.l)=b2:=⟨_,rfl⟩;rw[hb1e,hb2e];obtain⟨g1,hg1⟩:∃g1,w.heap.size=g1:=⟨_,rfl⟩;have hb1:=Y9z (Below.refl w.heap.size w) (Z00 _) (.cells (clA x) 27);have hk1:=Bk.newAt w 27 (clA x) hg1;obtain⟨w1,hw1⟩:∃w1,w.alloc (.cells (clA x) 27)=w1:=⟨_,rfl⟩;rw[hw1]at hb1 hk1;obtain⟨g2,hg2⟩:∃g2,w1.heap.size=g2:=⟨_,rfl⟩;have hb2:=Y9z hb1 (Z00 _) (.cells (clA y) 27);have hk1b:=hk1.alloc (.cells (clA y) 27);have hk2:=Bk.newAt w1 27 (clA y) hg2;obtain⟨w2,hw2⟩:∃w2,w1.alloc (.cells (clA y) 27)=w2:=⟨_,rfl⟩;rw[hw2]at hb2 hk1b hk2;have HB:=bx hb2;have Ze:=bx hk1b;have Zn:=bx hk2;have HA:Bx (Calls Tryz.prog 10 #[.agg (clA x),.agg (clA y)] w2 fun e w'=>e = .returned (.bool b1)∧Below w2.heap.size w2 w'):=bx (by rw[←hb1e];exact X1m x y w2 (hx.step (fun k hk=>hb2.block k hk) (fun k hk=>Z07 hk hb2.size)) (hy.step (fun k hk=>hb2.block k hk) (fun k hk=>Z07 hk hb2.size)) hcx hcy);have HP:Bx (∀w3,Below w2.heap.size w2 w3→Calls Tryz.prog 11 #[.slice x.pool.A x.pool.n x.pool.c,.slice y.pool.A y.pool.n y.pool.c] w3 fun e w'=>e = .returned (.bool b2)∧∃q,w'=w3.drewN q):=bx (fun w3 h3=>by rw[←hb2e];have hz:=hb2.trans (h3.mono hb2.size);have a:=Y9d hx.pool hz;have b:=Y9d hy.pool hz;exact Y6t _ _ _ _ _ _ _ _ _ a.1 b.1 hpx hpy a.2.2 b.2.2);clear hb1e hb2e hx hy hcx hcy hpx hpy hb1 hb2 hk1 hk1b hk2
  go_enter Tryz.func14,Tryz.ntmps14
  cases b1 with
  | false=>
    go_wp2_with (first
      | (refine wpList_load_row rfl 27 (.tmp 2) rfl g1 rfl _ (clA x) _ _ Ze.out Tryz.underlying27 rfl Y9l ?_)
      | (refine wpList_load_row rfl 27 (.tmp 3) rfl g2 rfl _ (clA y) _ _ Zn.out Tryz.underlying27 rfl Y9l ?_)
      | (go_at_call 10;refine HA.out.mono ?_;rintro e w3 ⟨rfl,h3⟩))
    go_ret;exact⟨by cases b2 <;> rfl,HB.out.trans (h3.mono HB.out.size)⟩
  | true=>
    go_wp2_with (first
      | (refine wpList_load_row rfl 27 (.tmp 2) rfl g1 rfl _ (clA x) _ _ Ze.out Tryz.underlying27 rfl Y9l ?_)
      | (refine wpList_load_row rfl 27 (.tmp 3) rfl g2 rfl _ (clA y) _ _ Zn.out Tryz.underlying27 rfl Y9l ?_)
      | (go_at_call 10;refine HA.out.mono ?_;rintro e w3 ⟨rfl,h3⟩
         have hx6:w3.cell? ⟨g1,6,none⟩=some (.slice x.pool.A x.pool.n x.pool.c):=(h3.cell (p:=⟨g1,6,none⟩) Ze.out.lt).trans ((Ze.out.cell 6).trans rfl);have hy6:w3.cell? ⟨g2,6,none⟩=some (.slice y.pool.A y.pool.n y.pool.c):=(h3.cell (p:=⟨g2,6,none⟩) Zn.out.lt).trans ((Zn.out.cell 6).trans rfl))
      | (go_at_call 11;refine(HP.out w3 h3).mono ?_;rintro e w4 ⟨rfl,q,rfl⟩))
    go_ret;exact⟨by cases b2 <;> rfl,below_drewN (HB.out.trans (h3.mono HB.out.size)) _⟩
end Go.Proofs.YtpmfiegfbmamiaaGreatDoor
