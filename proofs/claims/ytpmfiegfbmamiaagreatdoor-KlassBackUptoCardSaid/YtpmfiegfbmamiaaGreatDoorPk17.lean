/- Contract: image.Parse. -/
import Derived.Test.YtpmfiegfbmamiaaGreatDoorPk16
import Derived.Test.YtpmfiegfbmamiaaGreatDoorPk3
import Derived.Test.YtpmfiegfbmamiaaGreatDoorPk5
import Derived.Deep.RegionHeld3
import Derived.Deep.RegionWith
import Derived.BigRegion
namespace Go.Proofs.YtpmfiegfbmamiaaGreatDoor
set_option maxRecDepth 100000
set_option maxHeartbeats 16000000
open Go.RowKit
def ParsePost (R:Rz Img) (w:World) (e:Ending) (w':World):Prop:=
 Below w.heap.size w w'∧match R with
  | .ok m=>∃x:ImE,x.p=m∧e = .returned (.tuple #[.agg (imC x),.int .i64 0])∧RIm w' w'.heap.size x
  | .err k=>e = .returned (.tuple #[.agg imZ,.int .i64 k])∧k≠0
theorem W8l {R:Rz Img} {w w':World} {k:Int} (h:R = .err k) (hb:Below w.heap.size w w') (hk:k≠0):ParsePost R w (.returned (.tuple #[.agg imZ,.int .i64 k])) w':=by
 subst h;exact⟨hb,rfl,hk⟩
theorem pp_ok {R:Rz Img} {w w':World} {x:ImE} (h:R = .ok x.p) (hb:Below w.heap.size w w') (hr:RIm w' w'.heap.size x):ParsePost R w (.returned (.tuple #[.agg (imC x),.int .i64 0])) w':=by
 subst h;exact⟨hb,x,rfl,rfl,hr⟩
theorem ifTy:ETy Tryz.prog 29 3 (.int .i64 0) 1 8:=⟨Tryz.underlying29,info_parts (by kernel_rfl),rfl,by decide⟩
theorem W7b (x:ImE):(imC x).all (·.oneCell')=true:=by kernel_rfl
theorem imCstTy:ETy Tryz.prog 25 68 (.agg #[.int .i64 0,.int .i64 0,.int .i64 0,.int .i64 0,.string ⟨#[]⟩]) 5 48:=⟨Tryz.underlying25,info_parts (by kernel_rfl),rfl,by decide⟩
theorem Y6r (tmps:Array Value) (w:World) (g:Nat) (cs:Array Value) (h2:tmps.getD 2 undef = .pointer (some ⟨g,0,none⟩)) (hk:Bk w g 33 cs) (hs:cs.size=10) :
  (results Tryz.f33 tmps).run Tryz.prog w = .ok (.tuple #[.agg cs,tmps.getD 3 undef]) w:=by
 rw[results_cell_tmp (p:=2) (u:=3) (ty:=33) Tryz.results33];have h2':tmps[2]?.getD undef = .pointer (some ⟨g,0,none⟩):=(by simpa using h2);have hl:=run_loadVar_row (P:=Tryz.prog) w g 33 33 cs (0,0) _ hk Tryz.underlying33 rfl (by rw[hs];exact Y9q);simp [h2',asAddr,hl,Result.andThen]
theorem X4e:imZ.all (·.oneCell')=true:=by kernel_rfl
theorem X5v (A:Option Addr) (n c:Nat) (b:List UInt8) (w:World) (hn:b.length=n) (hz:(n:Int)≤140737488355328) (hr:RB w w.heap.size A b) :
  Calls Tryz.prog 33 #[.slice A n c] w (ParsePost (parseP b) w):=by
 have HL:=bx hn;have HR:=bx hr;obtain⟨W,hW⟩:∃W,parseP b=W:=⟨_,rfl⟩;rw[hW];have HW:=bx hW;obtain⟨gq,hq⟩:∃gq,w.heap.size=gq:=⟨_,rfl⟩;have Ls:=bx (Bk.newAt w 33 imZ hq);have Ri:=bx (Y9z (Below.refl w.heap.size w) (Z00 _) (.cells imZ 33));have J6:=bx hq;clear hn hr hW hq
 go_enter Tryz.func33,Tryz.ntmps33
 go_upto_region 1 with(fail)
 rw[J6.out];change Code.wp _ _ _ _ (w.alloc (.cells imZ 33));generalize w.alloc (.cells imZ 33)=w0 at Ls Ri ⊢;by_cases hbig:32768<n
 ·have hbI:(32768:Int)<(n:Int):=by omega
  have HN:Bx (W = .err 8):=bx (by rw[←HW.out];unfold parseP;rw[if_pos (by rw[HL.out];exact hbig)]);go_wp2_with (refine wpList_store_row rfl 33 (.tmp 2) (.tmp 12) rfl gq imZ rfl rfl 33 imZ Ls.out Y9q rfl X4e ?_)
  exact bodyPost_ret (v := .tuple #[.agg imZ,.int .i64 8]) (Y6r _ _ gq imZ rfl (Ls.out.setRow imZ) rfl) rfl (W8l HN.out (bl_setRow Ri.out (by rw[J6.out];exact Z00 _) imZ) (by decide))
 ·have hbI:¬(32768:Int)<(n:Int):=by omega
  have Ky:Bx (b.length≤1000000):=bx (by rw[HL.out];omega);have X8:=bx (HR.out.step Ri.out);have hgq:gq<w0.heap.size:=Ls.out.lt;go_wp2_with fail
  refine(W7l A n c w0 b HL.out hz X8.out).mono ?_
  rintro e w1 ⟨gr,rfl,hgr,hrd,hb1⟩;obtain⟨gs,hgs⟩:∃gs,w1.heap.size=gs:=⟨_,rfl⟩;have Ry:Bx (Pa0 w (w1.alloc (.cells #[.pointer (some ⟨gr,0,none⟩),.int .i64 0] 131)) b gq gs gr (.ok 0)):=bx (by have hl:=hrd.ltr;have hbb:Below w1.heap.size w1 (w1.alloc (.cells #[.pointer (some ⟨gr,0,none⟩),.int .i64 0] 131)):=Y9z (Below.refl _ _) (Z00 _) _;have hb9:=hb1.size;have hq1:Bk w1 gq 33 imZ:=Ls.out.below hb1 hgq;have hs0:=Ri.out.size;exact⟨(Ri.out.trans (hb1.mono Ri.out.size)).trans (hbb.mono (by omega)),hq1.alloc _,⟨0,false,0,Bk.newAt _ _ _ hgs,hrd.below hbb,by omega,rfl,rfl,rfl⟩,⟨by rw[←J6.out];exact Z00 _,by omega,by omega⟩,⟨by omega,by omega⟩⟩);have B0:=bx hgs;clear hrd hb1 hgs hgq hgr Ls Ri HR X8;go_upto_region 4 with(fail)
  rw[B0.out];generalize w1.alloc (.cells #[.pointer (some ⟨gr,0,none⟩),.int .i64 0] 131)=w2 at Ry ⊢;clear B0;obtain⟨r0,hr0⟩:∃r,onR (.ok 0) (rdN 4) b=r:=⟨_,rfl⟩;have Gy:=bx (Y9s gs gr 4 b (.ok 0) w2 Ry.out.src (by decide) (by decide));rw[hr0]at Gy;obtain⟨x0,hx0⟩:∃x,valN r0=x:=⟨_,rfl⟩;rw[hx0]at Gy;obtain⟨s1,hs1⟩:∃s,(if valN r0≠3405691582 then failR (stR r0) 24 else stR r0)=s:=⟨_,rfl⟩;have Gi:=bx hr0;have Se:=bx hs1;have Li:=bx hx0;clear hr0 hs1 hx0;go_wp2_with fail
  refine Gy.out.mono ?_;rintro e w3 ⟨rfl,hs3,hc3⟩;have To:=bx (Ry.out.next hs3 hc3);clear hs3 hc3 Gy Ry
  go_upto_if 19 with(fail)
  go_cut [4] (fun v wx=>v = .pointer (some ⟨gs,0,none⟩)∧Bx (Pa0 w wx b gq gs gr s1))
  case first=>
   -- DEV{
   by_cases hm:x0=3405691582
   ·have HE:Bx (s1=stR r0):=bx (by rw[←Se.out,if_neg (by rw[Li.out];exact fun h=>h hm)])
    have hm1:(x0 != 3405691582)=false:=(by simp [hm]);have J5:Bx (Pa0 w w3 b gq gs gr s1):=bx (by rw[HE.out];exact To.out);clear hm;go_wp2
    go_meet
    case rel=>exact⟨rfl,J5⟩
   ·have HE:Bx (s1=failR (stR r0) 24):=bx (by rw[←Se.out,if_pos (by rw[Li.out];exact hm)])
    have hm1:(x0 != 3405691582)=true:=(by simp [hm]);have HF:=bx (Y8e gs gr b (stR r0) 24 w3 To.out.src (by decide));clear hm;go_wp2_with fail
    refine HF.out.mono ?_;rintro e w4 ⟨⟨q,rfl⟩,hs4,hc4⟩;have J5:Bx (Pa0 w w4 b gq gs gr s1):=bx (by rw[HE.out];exact To.out.next hs4 hc4);clear hs4 hc4;go_wp2
    go_meet
    case rel=>exact⟨rfl,J5⟩
   -- DEV}
  case rest=>
   obtain⟨rfl,HP⟩:=hcut;clear To;obtain⟨r2,hr2⟩:∃r,onR s1 (rdN 2) b=r:=⟨_,rfl⟩;have Tp:=bx (Y9s gs gr 2 b s1 wc HP.out.src (by decide) (by decide));have hv2:=Y7o 2 s1 b;rw[hr2]at Tp hv2;obtain⟨x2,hx2⟩:∃x,valN r2=x:=⟨_,rfl⟩;rw[hx2]at Tp hv2;have Vs:=bx hv2;have Xd:=bx hr2;have Ss:=bx hx2;clear hr2 hx2 hv2;go_step;go_wp2_with fail
   refine Tp.out.mono ?_;rintro e w5 ⟨rfl,hs5,hc5⟩;have Nv:=bx ((HP.out.next hs5 hc5).make #[.int .i64 x2,.int .i64 0,.slice none 0 0,.int .i64 0,.int .i64 0,.int .i64 0,.slice none 0 0,.slice none 0 0,.slice none 0 0,.slice none 0 0]);obtain⟨gm,hgm⟩:∃gm,w5.heap.size=gm:=⟨_,rfl⟩;have Pj:=bx hgm;rw[hgm]at Nv;clear hs5 hc5 Tp hgm HP;go_upto_region 7 with(fail)
   rw[Pj.out];generalize w5.alloc (.cells #[.int .i64 x2,.int .i64 0,.slice none 0 0,.int .i64 0,.int .i64 0,.int .i64 0,.slice none 0 0,.slice none 0 0,.slice none 0 0,.slice none 0 0] 33)=w6 at Nv ⊢;obtain⟨r3,hr3⟩:∃r,onR (stR r2) (rdN 2) b=r:=⟨_,rfl⟩;have Qx:=bx (Y9s gs gr 2 b (stR r2) w6 Nv.out.src (by decide) (by decide));have hv3:=Y7o 2 (stR r2) b;rw[hr3]at Qx hv3;obtain⟨x3,hx3⟩:∃x,valN r3=x:=⟨_,rfl⟩;rw[hx3]at Qx hv3;have Mn:=bx hv3;have Vq:=bx hr3;have Pn:=bx hx3;clear hr3 hx3 hv3 Pj;go_wp2_with fail
   refine Qx.out.mono ?_;rintro e w7 ⟨rfl,hs7,hc7⟩;have Tt:=bx (Nv.out.next hs7 hc7);have Lc:=bx (Tt.out.set 1 (.int .i64 x3));have m1:w7.cell? ⟨gm,1,none⟩=some (.int .i64 0):=(Tt.out.im.cell 1).trans rfl;have z1:w7.frozen? ⟨gm,1,none⟩=false:=Tt.out.im.frz 1;clear hs7 hc7 Qx Nv;go_upto_region 8 with(fail)
   clear m1 z1;generalize w7.setCell ⟨gm,1,none⟩ (.int .i64 x3)=w8 at Lc ⊢;have m1:w8.cell? ⟨gm,1,none⟩=some (.int .i64 x3):=(Lc.out.im.cell 1).trans rfl;obtain⟨cs1,hcs1⟩:∃cs:Array Value,#[.int .i64 x2,.int .i64 x3,.slice none 0 0,.int .i64 0,.int .i64 0,.int .i64 0,.slice none 0 0,.slice none 0 0,.slice none 0 0,.slice none 0 0]=cs:=⟨_,rfl⟩;have Sm:Bx (PaR w w8 b gq gs gr gm cs1 (stR r3)):=bx (by rw[←hcs1];exact Lc.out);have Sk:=bx hcs1;obtain⟨s4,hs4⟩:∃s,(if valN r3<45∨52<valN r3 then failR (stR r3) 24 else stR r3)=s:=⟨_,rfl⟩;have Yr:=bx hs4;clear hs4 Tt Lc hcs1;obtain⟨qb,hqb⟩:∃q,decide (x3<45∨52<x3)=q:=⟨_,rfl⟩;have Tm:=bx hqb;clear hqb
   go_cut [35] (fun v wx=>v = .bool qb∧w8=wx)
   case first=>
    -- DEV{
    by_cases ha:x3<45
    ·have HE:Bx (qb=true):=bx (by rw[←Tm.out];exact Z46 (.inl ha))
     go_wp2
     go_meet
     case rel=>exact⟨by rw[HE.out];try rfl,rfl⟩
    ·by_cases hb:52<x3
     ·have HE:Bx (qb=true):=bx (by rw[←Tm.out];exact Z46 (.inr hb))
      go_wp2
      go_meet
      case rel=>exact⟨by rw[HE.out];try rfl,rfl⟩
     ·have HE:Bx (qb=false):=bx (by rw[←Tm.out];exact Z47 (by omega))
      go_wp2
      go_meet
      case rel=>exact⟨by rw[HE.out];try rfl,rfl⟩
    -- DEV}
   case rest=>
   obtain⟨rfl,rfl⟩:=hcut
   go_upto_if 35 with(fail)
   go_cut [4,5] (fun v v5 wx=>v = .pointer (some ⟨gs,0,none⟩)∧v5 = .pointer (some ⟨gm,0,none⟩)∧Bx (PaR w wx b gq gs gr gm cs1 s4))
   case first=>
    -- DEV{
    have HF:=bx (Y8e gs gr b (stR r3) 24 w8 Sm.out.src (by decide));cases qb with
    | true=>
     have HE:Bx (s4=failR (stR r3) 24):=bx (by rw[←Yr.out,if_pos (by rw[Pn.out];exact Z48 Tm.out)]);go_wp2_with fail
     refine HF.out.mono ?_;rintro e w9 ⟨⟨q,rfl⟩,hs9,hc9⟩;have Pz:Bx (PaR w w9 b gq gs gr gm cs1 s4):=bx (by rw[HE.out];exact Sm.out.next hs9 hc9);clear hs9 hc9;go_wp2
     go_meet
     case rel=>exact⟨rfl,rfl,Pz⟩
    | false=>
     have HE:Bx (s4=stR r3):=bx (by rw[←Yr.out,if_neg (by rw[Pn.out];exact of_decide_eq_false Tm.out)]);have Pz:Bx (PaR w w8 b gq gs gr gm cs1 s4):=bx (by rw[HE.out];exact Sm.out);go_wp2
     go_meet
     case rel=>exact⟨rfl,rfl,Pz⟩
    -- DEV}
   case rest=>
    obtain⟨rfl,rfl,Tf⟩:=hcut;clear Sm m1;obtain⟨r5,hr5⟩:∃r,onR s4 (rdN 2) b=r:=⟨_,rfl⟩;have Qb:=bx (Y9s gs gr 2 b s4 wc Tf.out.src (by decide) (by decide));have hv5:=Y7o 2 s4 b;rw[hr5]at Qb hv5;obtain⟨k,hk⟩:∃k:Nat,valN r5=(k:Int):=⟨(valN r5).toNat,by omega⟩;rw[hk]at Qb hv5;have M3:Bx (k<65536):=bx (by have:=hv5.2;have:(k:Int)<65536:=this;omega);have Vd:=bx hr5;have Zj:=bx hk;obtain⟨s6,hs6⟩:∃s,(if (k:Int)<1∨1024<(k:Int) then failR (stR r5) 24 else stR r5)=s:=⟨_,rfl⟩;have Ys:=bx hs6;obtain⟨qc,hqc⟩:∃q,decide ((k:Int)<1∨1024<(k:Int))=q:=⟨_,rfl⟩;have Tk:=bx hqc;clear hr5 hk hv5 hs6 hqc;go_step;go_wp2_with fail
    refine Qb.out.mono ?_;rintro e w10 ⟨rfl,hs10,hc10⟩;have Ka:=bx (Tf.out.next hs10 hc10);clear hs10 hc10 Qb Tf;go_upto_region 11 with(fail)
    go_cut [45] (fun v wx=>v = .bool qc∧w10=wx)
    case first=>
     -- DEV{
     by_cases ha:(k:Int)<1
     ·have HE:Bx (qc=true):=bx (by rw[←Tk.out];exact Z46 (.inl ha))
      go_wp2
      go_meet
      case rel=>exact⟨by rw[HE.out];try rfl,rfl⟩
     ·by_cases hb:1024<(k:Int)
      ·have HE:Bx (qc=true):=bx (by rw[←Tk.out];exact Z46 (.inr hb))
       go_wp2
       go_meet
       case rel=>exact⟨by rw[HE.out];try rfl,rfl⟩
      ·have HE:Bx (qc=false):=bx (by rw[←Tk.out];exact Z47 (by omega))
       go_wp2
       go_meet
       case rel=>exact⟨by rw[HE.out];try rfl,rfl⟩
     -- DEV}
    case rest=>
    obtain⟨rfl,rfl⟩:=hcut
    go_upto_if 45 with(fail)
    go_cut [4,5,6] (fun v v5 v6 wx=>v = .pointer (some ⟨gs,0,none⟩)∧v5 = .pointer (some ⟨gm,0,none⟩)∧v6 = .int .i64 (k:Int)∧Bx (PaR w wx b gq gs gr gm cs1 s6))
    case first=>
     -- DEV{
     have HF:=bx (Y8e gs gr b (stR r5) 24 w10 Ka.out.src (by decide));cases qc with
     | true=>
      have HE:Bx (s6=failR (stR r5) 24):=bx (by rw[←Ys.out,if_pos (Z48 Tk.out)]);go_wp2_with fail
      refine HF.out.mono ?_;rintro e w9 ⟨⟨q,rfl⟩,hs9,hc9⟩;have Dy:Bx (PaR w w9 b gq gs gr gm cs1 s6):=bx (by rw[HE.out];exact Ka.out.next hs9 hc9);clear hs9 hc9;go_wp2
      go_meet
      case rel=>exact⟨rfl,rfl,rfl,Dy⟩
     | false=>
      have HE:Bx (s6=stR r5):=bx (by rw[←Ys.out,if_neg (of_decide_eq_false Tk.out)]);have Dy:Bx (PaR w w10 b gq gs gr gm cs1 s6):=bx (by rw[HE.out];exact Ka.out);go_wp2
      go_meet
      case rel=>exact⟨rfl,rfl,rfl,Dy⟩
     -- DEV}
    case rest=>
     obtain⟨rfl,rfl,rfl,Wq⟩:=hcut;clear Ka;have Zc:=bx (RS.new (fC:=cstC) wc cst0 #[.int .i64 0,.int .i64 0,.int .i64 0,.int .i64 0,.string ⟨#[]⟩] rfl 68 (0,0));have J4:=bx (Y9z (Below.refl wc.heap.size wc) (Z00 _) (.cells #[.int .i64 0,.int .i64 0,.int .i64 0,.int .i64 0,.string ⟨#[]⟩] 68));have m2:wc.cell? ⟨gm,2,none⟩=some (.slice none 0 0):=(Wq.out.im.cell 2).trans (by rw[←Sk.out];rfl);have hz6:wc.heap.size≤(wc.alloc (.cells #[.int .i64 0,.int .i64 0,.int .i64 0,.int .i64 0,.string ⟨#[]⟩] 68)).heap.size:=J4.out.size;go_step;go_wp2_with (at_builtin;refine Y9v _ cstCels rfl (.tmp 49) (.tmp 51) rfl imCstTy (by decide) wc.heap.size (.slice none 0 0) [] rfl OwS.nil (wc.heap.size+1) (some ⟨wc.heap.size,0,none⟩) 1 1 [cst0] rfl rfl Zc.out (by decide) hz6 ?_;intro V7 w7 hO7 hg7 hv7 hb7;obtain⟨A7,c7,e7,-,-⟩:=OwS.rd hO7;replace e7:V7 = .slice A7 1 c7:=e7;subst e7;have Qn:=bx hO7;have Tt:=bx (Wq.out.below (J4.out.trans hb7));have m27:w7.cell? ⟨gm,2,none⟩=some (.slice none 0 0):=(Tt.out.im.cell 2).trans (by rw[←Sk.out];rfl);have z27:w7.frozen? ⟨gm,2,none⟩=false:=Tt.out.im.frz 2;clear hO7 hg7 hv7 hb7)
     have hgm:gm+1≤wc.heap.size:=Wq.out.im.lt;have J3:Bx (PaP w (w7.setCell ⟨gm,2,none⟩ (.slice A7 1 c7)) b gq gs gr gm cs1 (.slice A7 1 c7) [cst0] s6):=bx ⟨Tt.out.set 2 _,(Qn.out.low hgm).set_other (fun e=>by have:=(Qn.out.blk e).1;simp only at this;omega) _⟩;obtain⟨R7,hR7⟩:∃R,poolR b [cst0] s6 k (k-1)=R:=⟨_,rfl⟩;have Tu:=bx hR7;have Pr:=bx (PoolAt.start Ys.out);clear m27 z27 hgm hR7 Tt Qn Wq J4 Zc m2 hz6;generalize w7.setCell ⟨gm,2,none⟩ (.slice A7 1 c7)=w8 at J3 ⊢
     go_loopw [] (fun wx=>∃(A:Option Addr) (c:Nat) (L:List Cst) (s':Rz Nat) (f m:Nat),Bx (PaP w wx b gq gs gr gm cs1 (.slice A (L.length+1) c) (cst0::L) s')∧Bx (poolR b (cst0::L) s' f m=R7)∧Bx (PoolAt L s' f m k)) (fun wx=>poolM gm k wx)
     case atStart=>exact⟨A7,c7,[],s6,k,k-1,J3,Tu,Pr⟩
     case round=>
      clear J3 Pr;obtain⟨A,c,L,s',f,m,HP,Zh,X7⟩:=hrel;obtain⟨nV,hnV⟩:∃nV,L.length+1=nV:=⟨_,rfl⟩;have Ng:=bx hnV;rw[hnV]at HP;clear hnV;have m2:wr.cell? ⟨gm,2,none⟩=some (.slice A nV c):=(HP.out.par.im.cell 2).trans (by rw[←Sk.out];rfl);obtain⟨qd,hqd⟩:∃q:Bool,(q=true↔nV<k∧∃p,s' = .ok p):=X5n _;have Pe:=bx hqd;clear hqd;go_upto_region 14 with(fail)
      go_cut [65] from 54 to 89 (fun v wx=>v = .bool qd∧wr=wx)
      case first=>
       -- DEV{
       cases s' with
       | err e=>
        have HE:Bx (qd=false):=bx (Bool.eq_false_iff.2 fun h=>by obtain⟨_,p,hp⟩:=Pe.out.1 h;cases hp);obtain⟨hB1,hk0⟩:=HP.out.par.src.err_;have c1:wr.cell? ⟨gs,1,none⟩=some (.int .i64 e):=(hB1.cell 1).trans rfl;have hkI:(e==0)=false:=by rw[beq_eq_false_iff_ne];exact hk0
        clear hB1 hk0;by_cases hl:nV<k
        ·have hlI:(nV:Int)<(k:Int):=by omega
         clear hl;go_wp2
         go_meet
         case rel=>exact⟨by rw[HE.out];try rfl,rfl⟩
        ·have hlI:¬(nV:Int)<(k:Int):=by omega
         clear hl;go_wp2
         go_meet
         case rel=>exact⟨by rw[HE.out];try rfl,rfl⟩
       | ok p=>
        obtain⟨hB1,_,_⟩:=HP.out.par.src.ok_;have c1:wr.cell? ⟨gs,1,none⟩=some (.int .i64 0):=(hB1.cell 1).trans rfl;clear hB1;by_cases hl:nV<k
        ·have HE:Bx (qd=true):=bx (Pe.out.2 ⟨hl,p,rfl⟩)
         have hlI:(nV:Int)<(k:Int):=(by omega);clear hl;go_wp2
         go_meet
         case rel=>exact⟨by rw[HE.out];try rfl,rfl⟩
        ·have HE:Bx (qd=false):=bx (Bool.eq_false_iff.2 fun h=>hl (Pe.out.1 h).1)
         have hlI:¬(nV:Int)<(k:Int):=(by omega);clear hl;go_wp2
         go_meet
         case rel=>exact⟨by rw[HE.out];try rfl,rfl⟩
       -- DEV}
      case rest=>
      obtain⟨rfl,rfl⟩:=hcut;cases qd with
      | false=>
       have he:=X7.out.done (fun h=>by
        have:=Pe.out.2 ⟨by rw[←Ng.out];exact h.1,h.2⟩
        cases this)
       have Ba:=bx (X0k Zh.out he);obtain⟨x0,hx0⟩:∃x:ImE,x=⟨x2,x3,A,nV,c,cst0::L,0,0,0,none,0,0,[],none,0,0,[],none,0,0,[],none,0,0,[]⟩:=⟨_,rfl⟩;have HX:Bx (PaX w wr b gq gs gr gm wr.heap.size x0 s'):=bx (by have h:=HP.out;rw[←Sk.out]at h;rw[hx0];exact h.fin);have Li:=bx hx0;obtain⟨he1,Tc⟩:stR R7=s'∧Bx (∀x,R7 = .ok x→(cst0::L)=x.1):=⟨Ba.out.1,bx Ba.out.2⟩;clear Ba;subst he1;clear he hx0 HP Zh X7 Pe m2;go_step;obtain⟨r8,hr8⟩:∃r,onR (stR R7) (rdN 2) b=r:=⟨_,rfl⟩;have Wo:=bx (Y9s gs gr 2 b (stR R7) wr HX.out.par.src (by decide) (by decide));rw[hr8]at Wo;obtain⟨v8,hv8⟩:∃x,valN r8=x:=⟨_,rfl⟩;rw[hv8]at Wo;have Qg:=bx hr8;have HV8:=bx hv8;clear hr8 hv8;go_wp2_with fail
       refine Wo.out.mono ?_;rintro e w11 ⟨rfl,hs11,hc11⟩;have Sx:=bx (HX.out.next hs11 hc11);have m3:w11.cell? ⟨gm,3,none⟩=some (.int .i64 x0.access):=Sx.out.par.im.im3 rfl;have z3:w11.frozen? ⟨gm,3,none⟩=false:=Sx.out.par.im.frz 3;clear hs11 hc11 Wo HX;obtain⟨x1,hx1⟩:∃x:ImE,x={ x0 with access:=v8 }:=⟨_,rfl⟩;have Th:=bx (Sx.out.num3 v8);rw[←hx1]at Th;have Zu:=bx hx1;clear hx1 Sx;go_upto_region 22 with(fail)
       clear m3 z3;generalize w11.setCell ⟨gm,3,none⟩ (.int .i64 v8)=w12 at Th ⊢;obtain⟨r9,hr9⟩:∃r,onR (stR r8) (rdN 2) b=r:=⟨_,rfl⟩;have La:=bx (Y9s gs gr 2 b (stR r8) w12 Th.out.par.src (by decide) (by decide));rw[hr9]at La;obtain⟨v9,hv9⟩:∃x,valN r9=x:=⟨_,rfl⟩;rw[hv9]at La;have Kl:=bx hr9;have Wi:=bx hv9;clear hr9 hv9;go_wp2_with fail
       refine La.out.mono ?_;rintro e w13 ⟨rfl,hs11,hc11⟩;have Sx:=bx (Th.out.next hs11 hc11);have m3:w13.cell? ⟨gm,4,none⟩=some (.int .i64 x1.this):=Sx.out.par.im.im4 rfl;have z3:w13.frozen? ⟨gm,4,none⟩=false:=Sx.out.par.im.frz 4;clear hs11 hc11 La Th;obtain⟨x4,hx4⟩:∃x:ImE,x={ x1 with this:=v9 }:=⟨_,rfl⟩;have Th:=bx (Sx.out.num4 v9);rw[←hx4]at Th;have Po:=bx hx4;clear hx4 Sx;go_upto_region 23 with(fail)
       clear m3 z3;generalize w13.setCell ⟨gm,4,none⟩ (.int .i64 v9)=w14 at Th ⊢;obtain⟨r10,hr10⟩:∃r,onR (stR r9) (rdN 2) b=r:=⟨_,rfl⟩;have Jz:=bx (Y9s gs gr 2 b (stR r9) w14 Th.out.par.src (by decide) (by decide));rw[hr10]at Jz;obtain⟨v10,hv10⟩:∃x,valN r10=x:=⟨_,rfl⟩;rw[hv10]at Jz;have J2:=bx hr10;have Lr:=bx hv10;clear hr10 hv10;go_wp2_with fail
       refine Jz.out.mono ?_;rintro e w15 ⟨rfl,hs11,hc11⟩;have Sx:=bx (Th.out.next hs11 hc11);have m3:w15.cell? ⟨gm,5,none⟩=some (.int .i64 x4.super):=Sx.out.par.im.im5 rfl;have z3:w15.frozen? ⟨gm,5,none⟩=false:=Sx.out.par.im.frz 5;clear hs11 hc11 Jz Th;obtain⟨x5,hx5⟩:∃x:ImE,x={ x4 with super:=v10 }:=⟨_,rfl⟩;have Th:=bx (Sx.out.num5 v10);rw[←hx5]at Th;have Yf:=bx hx5;clear hx5 Sx;go_upto_region 24 with(fail)
       clear m3 z3;generalize w15.setCell ⟨gm,5,none⟩ (.int .i64 v10)=w16 at Th ⊢;have R4:=bx (Y4y gs gr b (stR r10) w16 Th.out.par.src);obtain⟨rc,hrc⟩:∃r,onR (stR r10) cntI b=r:=⟨_,rfl⟩;have hvc:=X1h (s:=stR r10) (b:=b);rw[hrc]at R4 hvc;obtain⟨ni,hni⟩:∃ni:Nat,valN rc=(ni:Int):=⟨(valN rc).toNat,by omega⟩;rw[hni]at R4 hvc;obtain⟨RR,hRR⟩:∃R,repR (rdN 2) b [] (stR rc) ni=R:=⟨_,rfl⟩;obtain⟨r11,hr11⟩:∃r:Rz (List Int×Nat),(RR.bind fun z => .ok (z.1.map (fun x:Nat=>(x:Int)),z.2))=r:=⟨_,rfl⟩;have J1:Bx (onR (stR r10) ifP b=r11):=bx (by rw[X0b hrc hni,hRR];exact hr11);have Fr:=bx hr11;have Zh:=bx hRR;have hn64:ni≤64:=(by omega);have X6:Bx (([]:List Nat).length+ni≤64):=bx (by simpa using hn64);clear hrc hvc hni hRR hr11 hn64;go_wp2_with fail
       refine R4.out.mono ?_;rintro e w17 ⟨rfl,hs11,hc11⟩;have Mr:=bx (Th.out.next hs11 hc11);have J0:=bx (Mr.out.start (V := .slice none 0 0) (by rw[Yf.out,Po.out,Zu.out,Li.out]) rfl);have I9:=bx Mr.out.le;clear hs11 hc11 R4 Th Mr;obtain⟨n17,hn17⟩:∃n,w17.heap.size=n:=⟨_,rfl⟩;rw[hn17]at J0;clear hn17 I9;obtain⟨wb,hwb⟩:∃wb,wb=wr:=⟨_,rfl⟩;subst hwb;go_wp2_with fail
       go_loopw [8] (fun nv wx=>∃(A:Option Addr) (c m:Nat) (LN:List Nat) (s':Rz Nat),nv = .int .i64 (m:Int)∧Bx (LN.length+m≤64)∧Bx (PaI w wx b gq gs gr gm n17 x5 (.slice A LN.length c) (LN.map (fun x:Nat=>(x:Int))) s')∧Bx (repR (rdN 2) b LN s' m=RR)) (fun nv _=>(intOf nv).toNat)
       case atStart=>exact⟨none,0,ni,[],stR rc,rfl,X6,J0,Zh⟩
       case round=>
        clear J0 Zh X6;obtain⟨Ai,ci,m,LN,s',rfl,R0,HP,Bm⟩:=hrel;obtain⟨nI,hnI⟩:∃nI,LN.length=nI:=⟨_,rfl⟩;have HNI:=bx hnI;rw[hnI]at HP;clear hnI;cases m with
        | zero=>
         have Dx:=bx (W3j Bm.out Fr.out);have HX:=bx HP.out.fin;have hmI:¬(0:Int)<((0:Nat):Int):=(by omega);obtain⟨he11,I8⟩:stR r11=s'∧Bx (∀x,r11 = .ok x→LN.map (fun x:Nat=>(x:Int))=x.1):=⟨Dx.out.1,bx Dx.out.2⟩;clear HP Bm R0 Dx;subst he11;obtain⟨x6,hx6⟩:∃x:ImE,x={ x5 with iA:=Ai,i_n:=nI,ic:=ci,ifs:=LN.map (fun x:Nat=>(x:Int)) }:=⟨_,rfl⟩;rw[←hx6]at HX;have Xo:=bx hx6;clear hx6;obtain⟨r12,hr12⟩:∃r,onR (stR r11) memsP b=r:=⟨_,rfl⟩;have Dw:=bx (Y1d gs gr b (stR r11) wr HX.out.par.src);rw[hr12]at Dw;have I7:=bx hr12;obtain⟨n12,hn12⟩:∃n,wr.heap.size=n:=⟨_,rfl⟩;have HN12:=bx hn12;clear hr12 hn12;go_wp2_with fail
         refine Dw.out.mono ?_;rintro e w20 ⟨V1,L1,rfl,hmm1,hl1,hx1⟩;have Jy:=bx hmm1;have Kh:=bx hx1;have Sx:=bx (HX.out.next hmm1.src hmm1.ch);clear hmm1 hl1 hx1 Dw HX;obtain⟨r13,hr13⟩:∃r,onR (stR r12) memsP b=r:=⟨_,rfl⟩;have Dv:=bx (Y1d gs gr b (stR r12) w20 Sx.out.par.src);rw[hr13]at Dv;have I6:=bx hr13;clear hr13;go_wp2_with fail
         refine Dv.out.mono ?_;rintro e w21 ⟨V2,L2,rfl,hmm2,hl2,hx2⟩;have Jx:=bx hmm2;have I5:=bx hx2;have Th:=bx (Sx.out.next hmm2.src hmm2.ch);have hgn:gm<wr.heap.size:=Sx.out.gn;have hgo:gm<w20.heap.size:=Z07 hgn Sx.out.le;obtain⟨A1,c1,e1,-,-⟩:=OwS.rd Jy.out.own;obtain⟨n1,hn1⟩:∃n,L1.length=n:=⟨_,rfl⟩;rw[hn1]at e1;subst e1;obtain⟨A2,c2,e2,-,-⟩:=OwS.rd Jx.out.own;obtain⟨n2,hn2⟩:∃n,L2.length=n:=⟨_,rfl⟩;rw[hn2]at e2;subst e2;have Rl:=bx (W8m (Jy.out.own.ch hmm2.ch (Sx.out.par.two hgn)) (Jy.out.sub.ch hmm2.ch (Sx.out.par.two hgn)) hgn);have Ws:=bx (W8m Jx.out.own Jx.out.sub hgo);have Mr:=bx (Th.out.top.mem2 Rl.out Ws.out);have m7:w21.cell? ⟨gm,7,none⟩=some (.slice x6.fA x6.fn x6.fc):=Th.out.par.im.im7 rfl;have m8:w21.cell? ⟨gm,8,none⟩=some (.slice x6.mA x6.mn x6.mc):=Th.out.par.im.im8 rfl;have z7:w21.frozen? ⟨gm,7,none⟩=false:=Th.out.par.im.frz 7;have z8:w21.frozen? ⟨gm,8,none⟩=false:=Th.out.par.im.frz 8;obtain⟨x8,hx8⟩:∃x:ImE,x={ x6 with fA:=A1,fn:=n1,fc:=c1,fs:=L1,mA:=A2,mn:=n2,mc:=c2,ms:=L2 }:=⟨_,rfl⟩;rw[←hx8]at Mr;have Bg:=bx hx8;obtain⟨n21,hn21⟩:∃n,w21.heap.size=n:=⟨_,rfl⟩;rw[hn21]at Mr;clear hn21 hx8 hmm2 hl2 hx2 Dv Sx Th hgn hgo hn1 hn2 Rl Ws Jy Jx;go_upto_region 29 with(fail)
         clear m7 m8 z7 z8;generalize (w21.setCell ⟨gm,7,none⟩ (.slice A1 n1 c1)).setCell ⟨gm,8,none⟩ (.slice A2 n2 c2)=w22 at Mr ⊢;obtain⟨r14,hr14⟩:∃r,onR (stR r13) attsP b=r:=⟨_,rfl⟩;have Du:=bx (Y3y gs gr b (stR r13) w22 Mr.out.par.src);rw[hr14]at Du;have I4:=bx hr14;clear hr14;go_wp2_with fail
         refine Du.out.mono ?_;rintro e w23 ⟨V3,L3,rfl,hmm3,hl3,hx3⟩;have I3:=bx hx3;have Q9:=bx (Mr.out.next hmm3.src hmm3.ch);have hgo:gm<w22.heap.size:=Z07 Mr.out.gn Mr.out.le;obtain⟨A3,c3,e3,-,-⟩:=OwS.rd hmm3.own;obtain⟨n3,hn3⟩:∃n,L3.length=n:=⟨_,rfl⟩;rw[hn3]at e3;subst e3;have Cs:=bx (W4b hmm3.own hmm3.sub hgo);have Gx:=bx (Q9.out.top.att1 Cs.out);have m9:w23.cell? ⟨gm,9,none⟩=some (.slice x8.aA x8.an x8.ac):=Q9.out.par.im.im9 rfl;have z9:w23.frozen? ⟨gm,9,none⟩=false:=Q9.out.par.im.frz 9;obtain⟨x9,hx9⟩:∃x:ImE,x={ x8 with aA:=A3,an:=n3,ac:=c3,as_:=L3 }:=⟨_,rfl⟩;rw[←hx9]at Gx;have Bf:=bx hx9;obtain⟨n23,hn23⟩:∃n,w23.heap.size=n:=⟨_,rfl⟩;rw[hn23]at Gx;clear hn23 hx9 hmm3 hl3 hx3 Du Q9 Mr hgo hn3 Cs;go_upto_region 30 with(fail)
         clear m9 z9;generalize w23.setCell ⟨gm,9,none⟩ (.slice A3 n3 c3)=w24 at Gx ⊢;have Tj:Bx ((x9.p=⟨x2,x3,cst0::L,v8,v9,v10,LN.map (fun x:Nat=>(x:Int)),L1.map MmE.p,L2.map MmE.p,L3.map AtE.p⟩)):=bx (by rw[Bf.out,Bg.out,Xo.out,Yf.out,Po.out,Zu.out,Li.out];rfl);have Vp:Bx (W=(fin15 r14 b x9.p).bind (fun _ => .ok x9.p)∧∀z,r14 = .ok z→imgP b 0 = .ok (x9.p,z.2)):=bx (by have hc1:=X3g Gi.out Se.out;have hc2:=X6a Xd.out Vq.out Yr.out;have hc5:=X4b (mi:=(valN r2).toNat) (ma:=(valN r3).toNat) Vd.out Zj.out Ys.out;rw[←HW.out];refine X5b (by rw[HL.out];omega) (hc1.trans (hc2.trans hc5)) Tu.out Qg.out Kl.out J2.out J1.out I7.out I6.out I4.out Tc.out I8.out Kh.out I5.out I3.out ?_;rw[Tj.out,Ss.out,Pn.out,HV8.out,Wi.out,Lr.out,Z26 Vs.out.1,Z26 Mn.out.1]);obtain⟨qz,hqz⟩:∃q:Bool,(q=true↔∃z,r14 = .ok z∧(z.2≠b.length∨holdsP x9.p=false)):=X5n _;have Ci:=bx hqz;obtain⟨s15,hs15⟩:∃s,fin15 r14 b x9.p=s:=⟨_,rfl⟩;have Dt:=bx hs15;clear hqz hs15
         go_cut [138] from 121 to 138 (fun v wx=>v = .bool qz∧Bx (PaX w wx b gq gs gr gm n23 x9 (stR r14)))
         case first=>
          -- DEV{
          cases r14 with
          | err k9=>
           have HE:Bx (qz=false):=bx (Bool.eq_false_iff.2 fun h=>by obtain⟨z,hz,_⟩:=Ci.out.1 h;cases hz);have hsr:Src w24 gs gr b (.err k9):=Gx.out.par.src;obtain⟨hB1,hk0⟩:=hsr.err_;have c1:w24.cell? ⟨gs,1,none⟩=some (.int .i64 k9):=(hB1.cell 1).trans rfl;have hkI:(k9==0)=false:=by rw[beq_eq_false_iff_ne];exact hk0
           clear hB1 hk0 hsr;go_wp2
           go_meet
           case rel=>exact⟨by rw[HE.out];try rfl,Gx⟩
          | ok z=>
           have hsr:Src w24 gs gr b (.ok z.2):=Gx.out.par.src;obtain⟨hB1,hR1,_⟩:=hsr.ok_;have c0:w24.cell? ⟨gs,0,none⟩=some (.pointer (some ⟨gr,0,none⟩)):=(hB1.cell 0).trans rfl;have c1:w24.cell? ⟨gs,1,none⟩=some (.int .i64 0):=(hB1.cell 1).trans rfl;have hle:z.2≤b.length:=by obtain⟨_,_,_,_,_,_,_,h⟩:=hR1;exact h
           obtain⟨lf,hlf⟩:∃lf:Nat,(b.length:Int)-(z.2:Int)=(lf:Int):=⟨b.length-z.2,by omega⟩;have I2:=bx (W8q gr b z.2 false w24 hR1);rw[hlf]at I2;have Q8:Bx (lf=0↔z.2=b.length):=bx (by omega);clear hB1 hR1 hsr hle hlf;go_wp2_with fail
           refine I2.out.mono ?_;rintro e w25 ⟨rfl,q,hq⟩;have Rk:Bx (PaX w w25 b gq gs gr gm n23 x9 (stR (.ok z))):=bx (by rw[hq];exact Gx.out.below (below_drewN (Below.refl _ _) q));clear hq I2 c0 c1;by_cases hl:lf=0
           ·have hlI:¬(0:Int)<(lf:Int):=by omega
            have hzl:=Q8.out.1 hl
            have HH:=bx (Y4x x9 w25 Rk.out.rim (by
             have:=Y1j (Vp.out.2 z rfl)
             exact this))
            have X5:=bx hzl;obtain⟨hb9,hhb⟩:∃h,holdsP x9.p=h:=⟨_,rfl⟩;rw[hhb]at HH;have X4:=bx hhb;have f0:=Rk.out.par.im.im0 rfl;have f1:=Rk.out.par.im.im1 rfl;have f2:=Rk.out.par.im.im2 rfl;have f3:=Rk.out.par.im.im3 rfl;have f4:=Rk.out.par.im.im4 rfl;have f5:=Rk.out.par.im.im5 rfl;have f6:=Rk.out.par.im.im6 rfl;have f7:=Rk.out.par.im.im7 rfl;have f8:=Rk.out.par.im.im8 rfl;have f9:=Rk.out.par.im.im9 rfl;clear hl hzl hhb;go_wp2_with fail
            refine HH.out.mono ?_;rintro e w26 ⟨rfl,hb26⟩;have Cg:=bx (Rk.out.below hb26);clear hb26 HH f0 f1 f2 f3 f4 f5 f6 f7 f8 f9;cases hb9 with
            | true=>
             have HE:Bx (qz=false):=bx (Bool.eq_false_iff.2 fun h=>by
              obtain⟨z',hz,hh⟩:=Ci.out.1 h;injection hz with hz
              subst hz;rcases hh with hh | hh
              ·exact hh X5.out
              ·rw[X4.out]at hh;cases hh)
             go_wp2
             go_meet
             case rel=>exact⟨by rw[HE.out];try rfl,Cg⟩
            | false=>
             have HE:Bx (qz=true):=bx (Ci.out.2 ⟨z,rfl,.inr X4.out⟩);go_wp2
             go_meet
             case rel=>exact⟨by rw[HE.out];try rfl,Cg⟩
           ·have hlI:(0:Int)<(lf:Int):=by omega
            have HE:Bx (qz=true):=bx (Ci.out.2 ⟨z,rfl,.inl (fun e=>hl (Q8.out.2 e))⟩);clear hl;go_wp2
            go_meet
            case rel=>exact⟨by rw[HE.out];try rfl,Rk⟩
          -- DEV}
         case rest=>
         obtain⟨rfl,Rk⟩:=hcut;clear Gx
         go_upto_if 138 with(fail)
         go_cut [] from 139 to 140 (fun wx=>Bx (PaX w wx b gq gs gr gm n23 x9 s15))
         case first=>
          -- DEV{
          cases qz with
          | true=>
           have HF:=bx (Y8e gs gr b (stR r14) 24 wc Rk.out.par.src (by decide));have HE:Bx (s15=failR (stR r14) 24):=bx (by rw[←Dt.out,X6j (Ci.out.1 rfl)]);go_wp2_with fail
           refine HF.out.mono ?_;rintro e w27 ⟨⟨q,rfl⟩,hs9,hc9⟩;have Cg:Bx (PaX w w27 b gq gs gr gm n23 x9 s15):=bx (by rw[HE.out];exact Rk.out.next hs9 hc9);clear hs9 hc9;go_wp2
           go_meet
           case rel=>exact Cg
          | false=>
           have HE:Bx (s15=stR r14):=bx (by rw[←Dt.out,Y0p (fun h=>by have:=Ci.out.2 h;cases this)]);have Cg:Bx (PaX w wc b gq gs gr gm n23 x9 s15):=bx (by rw[HE.out];exact Rk.out);go_wp2
           go_meet
           case rel=>exact Cg
          -- DEV}
         case rest=>
         replace hcut:Bx (PaX w wc b gq gs gr gm n23 x9 s15):=hcut
         obtain⟨wd,hwd⟩:∃wd,wd=wc:=⟨_,rfl⟩;rw[←hwd]at hcut ⊢;clear hwd Rk;have Cf:Bx (W=s15.bind (fun _ => .ok x9.p)):=bx (by rw[Vp.out.1,Dt.out]);cases s15 with
         | err k9=>
          have Ds:Bx (W = .err k9):=bx Cf.out;obtain⟨hB1,hk0⟩:=hcut.out.par.src.err_;have Pr:=bx hk0;have c1:wd.cell? ⟨gs,1,none⟩=some (.int .i64 k9):=(hB1.cell 1).trans rfl;have hkI:(k9 != 0)=true:=by rw[bne_iff_ne];exact hk0
          clear hB1 hk0;have Ls:=bx hcut.out.par.zr;have hS0:wd.drew.cell? ⟨gs,1,none⟩=some (.int .i64 k9):=c1;have hS1:(wd.drew.setRow gq imZ).cell? ⟨gs,1,none⟩=some (.int .i64 k9):=(Y8w (p:=⟨gs,1,none⟩) (heap_setRow wd.drew gq imZ gs (fun e=>hcut.out.par.ne.1 e.symm))).trans c1;go_upto_region 33 with(fail)
          obtain⟨F,hF⟩:∃F,setF wd.drew gq imZ=F:=⟨_,rfl⟩;have hF0:wd.drew=F 0:=by rw[←hF];rfl
          have hF1:(F 0).setRow gq imZ=F 1:=by rw[←hF];rfl
          have hFc:∀n,(F n).cell? ⟨gs,1,none⟩=some (.int .i64 k9):=fun n=>by
           rw[←hF];cases n with
           | zero=>exact hS0
           | succ n=>exact hS1
          have Dr:=bx hF0;have Rl:=bx hF1;have Ja:Bx (Bk (F 0) gq 33 imZ):=bx (by rw[←hF0];exact Ls.out.drewN 1);have I1:Bx (Below w.heap.size w (F 0)):=bx (by rw[←hF0];exact below_drewN hcut.out.par.bel 1);clear hF hF0 hF1 hS0 hS1 c1;refine Y4n 5 F (by kernel_rfl) (by kernel_rfl) (by kernel_rfl) (by kernel_rfl) (by decide) Dr.out (fun _ _ _ d _ h=>by cases d <;> exact h) ?_;simp only[List.take_succ_cons,List.take_zero,List.drop_succ_cons,List.drop_zero]
          repeat (
           refine Y0r (fun K hK=>?_);simp only[SameAt];go_simp;refine hK _ ?_;clear hK K)
          refine X7j ?_;refine Y5q rfl (fun K hK=>?_);refine wp_store_row 33 (.tmp 2) (.tmp 146) rfl gq imZ rfl rfl 33 imZ Ja.out Y9q rfl X4e ?_;rw[Rl.out];refine hK _ _ ⟨1,rfl⟩ ?_;clear hK K;refine Y5q rfl (fun K hK=>?_);go_simp;refine hK _ _ ⟨1,rfl⟩ ?_;clear hK K;refine X9z ?_;clear hFc;go_wp2;exact bodyPost_ret (v := .tuple #[.agg imZ,.int .i64 k9]) (Y6r _ _ gq imZ rfl (by rw[←Rl.out];exact Ja.out.setRow imZ) rfl) rfl (W8l Ds.out (by rw[←Rl.out];exact bl_setRow I1.out hcut.out.par.lo.1 imZ) Pr.out)
         | ok p9=>
          have Ds:Bx (W = .ok x9.p):=bx Cf.out;obtain⟨hB1,_,_⟩:=hcut.out.par.src.ok_;have c1:wd.cell? ⟨gs,1,none⟩=some (.int .i64 0):=(hB1.cell 1).trans rfl;have Ls:=bx hcut.out.par.zr;have f0:=hcut.out.par.im.im0 rfl;have f1:=hcut.out.par.im.im1 rfl;have f2:=hcut.out.par.im.im2 rfl;have f3:=hcut.out.par.im.im3 rfl;have f4:=hcut.out.par.im.im4 rfl;have f5:=hcut.out.par.im.im5 rfl;have f6:=hcut.out.par.im.im6 rfl;have f7:=hcut.out.par.im.im7 rfl;have f8:=hcut.out.par.im.im8 rfl;have f9:=hcut.out.par.im.im9 rfl;clear hB1;go_wp2_with (refine wpList_store_row rfl 33 (.tmp 2) (.tmp 151) rfl gq (imC x9) rfl rfl 33 imZ Ls.out Y9q rfl (W7b x9) ?_)
          exact bodyPost_ret (v := .tuple #[.agg (imC x9),.int .i64 0]) (Y6r _ _ gq (imC x9) rfl (Ls.out.setRow (imC x9)) rfl) rfl (pp_ok Ds.out (bl_setRow hcut.out.par.bel hcut.out.par.lo.1 (imC x9)) (by have hr:=hcut.out.rows.step (w':=wd.setRow gq (imC x9)) (fun k hk=>heap_setRow wd gq (imC x9) k (fun e=>by have:=hcut.out.par.hi.2.2;have:=hk.1;omega)) (fun _ h=>h);exact hr.rim (fun k hk=>by have:=hk.2;have:=hcut.out.le;simpa [World.setRow] using (by omega:k<wd.heap.size))))
        | succ m=>
         -- DEV{
         have hmI:(0:Int)<((m+1:Nat):Int):=(by omega);have m6:wr.cell? ⟨gm,6,none⟩=some (.slice Ai nI ci):=(HP.out.par.im.cell 6).trans rfl;have HPd:=bx (HP.out.below (below_drewN (Below.refl wr.heap.size wr) 1));obtain⟨r,hr⟩:∃r,onR s' (rdN 2) b=r:=⟨_,rfl⟩;have HN:=bx (Y9s gs gr 2 b s' wr.drew HPd.out.par.src (by decide) (by decide));have hv:=Y7o 2 s' b;rw[hr]at HN hv;obtain⟨y,hy⟩:∃y:Nat,valN r=(y:Int):=⟨(valN r).toNat,by omega⟩;rw[hy]at HN;have Pd:=bx (W9a Bm.out hr hy);clear hr hv hy;have hS0:wr.drew.cell? ⟨gm,6,none⟩=some (.slice Ai nI ci):=m6
         have Wj:Bx (((LN.map (fun x:Nat=>(x:Int))).length+[(y:Int)].length)*8≤140737488355328):=bx (by
          have:=R0.out
          simp only[Z22,Z13,Z20];omega)
         obtain⟨nJ,hnJ⟩:∃nJ,(LN++[y]).length=nJ:=⟨_,rfl⟩;have HNJ:=bx hnJ;have Ml:Bx ((LN.map (fun x:Nat=>(x:Int))++[(y:Int)]).length=nJ):=bx (by rw[←hnJ];simp);have hm64:m+1≤64:=by have:=R0.out;omega
         clear hnJ;clear m6;go_upto_region 27 with(fail)
         go_region_law ((first
          | (go_simp;go_at_call 61;refine HN.out.mono ?_;rintro e w2 ⟨rfl,hs2,hc2⟩;have Nj:=bx (HPd.out.next hs2 hc2);have hS1:w2.cell? ⟨gm,6,none⟩=some (.slice Ai nI ci):=(Nj.out.par.im.cell 6).trans rfl;have Ry:=bx (Nj.out.below (Y9z (Below.refl w2.heap.size w2) (Z00 _) (.cells #[.int .i64 (y:Int)] 3)));have hS2:(w2.alloc (.cells #[.int .i64 (y:Int)] 3)).cell? ⟨gm,6,none⟩=some (.slice Ai nI ci):=(Ry.out.par.im.cell 6).trans rfl;have hz2:=Ry.out.le;clear hs2 hc2 Nj)
          | (refine Y7h (w2.alloc (.cells #[.int .i64 (y:Int)] 3)) X8a rfl (.tmp 106) (.tmp 109) rfl ifTy (by decide) n17 (.slice Ai nI ci) (LN.map (fun x:Nat=>(x:Int))) rfl Ry.out.own (w2.heap.size+1) (some ⟨w2.heap.size,0,none⟩) 1 1 [(y:Int)] rfl rfl (RL.freshe w2 _ rfl _) Wj.out hz2 ?_;intro V7 w7 hO7 hg7 hv7 hb7;obtain⟨A7,c7,e7,-,-⟩:=OwL.rd hO7;replace e7:V7 = .slice A7 nJ c7:=e7.trans (by rw[Ml.out]);subst e7;have Tt:=bx (Ry.out.app hO7 hb7);have hi7:=Ry.out.par.over hb7 Ry.out.gn;have hS3:w7.cell? ⟨gm,6,none⟩=some (.slice Ai nI ci):=(hi7.im.cell 6).trans rfl;have z7:w7.frozen? ⟨gm,6,none⟩=false:=hi7.im.frz 6;clear hO7 hg7 hv7 hb7 hi7)))
         all_goals (
          have Sm:Bx (PaI w (w7.setCell ⟨gm,6,none⟩ (.slice A7 nJ c7)) b gq gs gr gm n17 x5 (.slice A7 (LN++[y]).length c7) ((LN++[y]).map (fun x:Nat=>(x:Int))) (stR r)):=bx (by rw[Z30,HNJ.out];exact Tt.out)
          have Yk:Bx ((LN++[y]).length+m≤64):=bx (by
           have:=R0.out
           rw[Z08,List.length_singleton];omega)
          have HRM:=bx Pd;clear Tt Ry Pd hz2 hS1 hS2 hS3 z7 hS0;go_wp2;go_roundw
          case rel=>exact⟨A7,c7,m,LN++[y],stR r,by go_num,Yk,Sm,HRM.out⟩
          case measure=>simp [intOf])
         -- DEV}
      | true=>
       -- DEV{
       have h9:=Pe.out.1 rfl;obtain⟨hl,p,hp⟩:=h9;subst hp;have hl0:L.length+1<k:=by rw[Ng.out];exact hl
       obtain⟨f',m',hf,hm,hLk,hk1⟩:=X7.out.get hl0;subst hf;subst hm;obtain⟨R,hR⟩:∃R,onR (.ok p) cstP b=R:=⟨_,rfl⟩;have Ru:=bx (X7b gs gr b (.ok p) wr HP.out.par.src Ky.out);rw[hR]at Ru;have HR:=bx hR;have Ni:Bx (poolM gm k wr=k-nV):=bx (Y2z m2);have Q7:Bx (nV<k∧k≤1024):=bx ⟨hl,hk1⟩;clear hl hl0 hLk hk1 hR m2 Pe;go_wp2_with fail
       refine Ru.out.mono ?_;rintro e w1 ⟨cn,he,hs1,hc1,hx1⟩
       replace he:e = .returned (.agg #[.int .i64 cn.tag,.int .i64 cn.a,.int .i64 cn.b,.int .i64 cn.num,.string ⟨cn.text.toArray⟩]):=he
       subst he;have Zu:=bx hx1;have Nj:=bx (HP.out.next hs1 hc1);clear hx1 hs1 hc1 Ru HP;obtain⟨gc,hgc⟩:∃g,w1.heap.size=g:=⟨_,rfl⟩;have Vr:=bx hgc;have Zn:=bx (Bk.newAt w1 68 #[.int .i64 cn.tag,.int .i64 cn.a,.int .i64 cn.b,.int .i64 cn.num,.string ⟨cn.text.toArray⟩] hgc);have Ry:=bx (Nj.out.below (Y9z (Below.refl _ _) (Z00 _) (.cells #[.int .i64 cn.tag,.int .i64 cn.a,.int .i64 cn.b,.int .i64 cn.num,.string ⟨cn.text.toArray⟩] 68)));have hgg:gm<gc:=by rw[←hgc];exact Nj.out.sz
       have Cq:=bx hgg;have Gz:Bx (∀g,(Value.slice A nV c).ownBlock=some g→g<gc):=bx (fun g hg=>by rw[←hgc];exact(World.ownsRow.lt Nj.out.own g hg).2);clear hgc hgg Nj;go_upto_region 16 with(fail)
       rw[Vr.out];generalize w1.alloc (.cells #[.int .i64 cn.tag,.int .i64 cn.a,.int .i64 cn.b,.int .i64 cn.num,.string ⟨cn.text.toArray⟩] 68)=w2 at Zn Ry ⊢;have Zc:=bx (RS.new (fC:=cstC) w2 cn #[.int .i64 cn.tag,.int .i64 cn.a,.int .i64 cn.b,.int .i64 cn.num,.string ⟨cn.text.toArray⟩] rfl 68 (0,0));have hbn:Below w2.heap.size w2 (w2.alloc (.cells #[.int .i64 cn.tag,.int .i64 cn.a,.int .i64 cn.b,.int .i64 cn.num,.string ⟨cn.text.toArray⟩] 68)):=Y9z (Below.refl _ _) (Z00 _) _;have To:=bx (Ry.out.below hbn);have Zm:=bx (Zn.out.alloc (.cells #[.int .i64 cn.tag,.int .i64 cn.a,.int .i64 cn.b,.int .i64 cn.num,.string ⟨cn.text.toArray⟩] 68));have m2:w2.cell? ⟨gm,2,none⟩=some (.slice A nV c):=(Ry.out.par.im.cell 2).trans (by rw[←Sk.out];rfl);have q0:w2.cell? ⟨gc,0,none⟩=some (.int .i64 cn.tag):=(Zn.out.cell 0).trans rfl;have q1:w2.cell? ⟨gc,1,none⟩=some (.int .i64 cn.a):=(Zn.out.cell 1).trans rfl;have q2:w2.cell? ⟨gc,2,none⟩=some (.int .i64 cn.b):=(Zn.out.cell 2).trans rfl;have q3:w2.cell? ⟨gc,3,none⟩=some (.int .i64 cn.num):=(Zn.out.cell 3).trans rfl;have q4:w2.cell? ⟨gc,4,none⟩=some (.string ⟨cn.text.toArray⟩):=(Zn.out.cell 4).trans rfl;have Tp:Bx (((cst0::L).length+[cn].length)*48≤140737488355328):=bx (by have h1:=Ng.out;have h2:=Q7.out;simp only[Z13,Z20];omega);obtain⟨n1,hn1⟩:∃n1,nV+1=n1:=⟨_,rfl⟩;have Wt:=bx hn1;have Ml:Bx (((cst0::L)++[cn]).length=n1):=bx (by rw[Z08];show L.length+1+1=n1;rw[Ng.out];exact hn1);have hz6:=To.out.sz;clear hn1 hbn;go_upto_region 17 with(at_builtin;refine Y9v _ cstCels rfl (.tmp 69) (.tmp 71) rfl imCstTy (by decide) (gm+1) (.slice A nV c) (cst0::L) rfl To.out.own (w2.heap.size+1) (some ⟨w2.heap.size,0,none⟩) 1 1 [cn] rfl rfl Zc.out Tp.out hz6 ?_;intro V7 w7 hO7 hg7 hv7 hb7;obtain⟨A7,c7,e7,-,-⟩:=OwS.rd hO7;replace e7:V7 = .slice A7 n1 c7:=e7.trans (by rw[Ml.out]);subst e7;have Tt:=bx (To.out.app hO7 hb7);have Xw:=bx (Zm.out.grown hg7 (fun e=>absurd (Gz.out gc e.symm) (Nat.lt_irrefl _)));have hi7:=To.out.par.over hb7 (Z41 _);have m27:w7.cell? ⟨gm,2,none⟩=some (.slice A nV c):=(hi7.im.cell 2).trans (by rw[←Sk.out];rfl);have z27:w7.frozen? ⟨gm,2,none⟩=false:=hi7.im.frz 2;clear hO7 hg7 hv7 hb7 hi7)
       have m2:=Tt.out.par.im.cell 2
       replace m2:(w7.setCell ⟨gm,2,none⟩ (.slice A7 n1 c7)).cell? ⟨gm,2,none⟩=some (.slice A7 n1 c7):=m2.trans (by rw[←Sk.out];rfl)
       have Wp:Bx (Bk (w7.setCell ⟨gm,2,none⟩ (.slice A7 n1 c7)) gc 68 #[.int .i64 cn.tag,.int .i64 cn.a,.int .i64 cn.b,.int .i64 cn.num,.string ⟨cn.text.toArray⟩]):=bx (Xw.out.far (fun e=>by have:=Cq.out;simp only at e;omega) _);clear m27 z27 q0 q1 q2 q3 q4 Xw Zc To Zm Ry Zn hz6 Tp Ml Gz;generalize w7.setCell ⟨gm,2,none⟩ (.slice A7 n1 c7)=w8 at Tt Wp m2 ⊢;have q0:w8.cell? ⟨gc,0,none⟩=some (.int .i64 cn.tag):=(Wp.out.cell 0).trans rfl;by_cases h5:cn.tag=5
       ·have h5b:(cn.tag==5)=true:=by rw[h5];rfl
        obtain⟨s3,hs3⟩:∃s3,(if n1=k then failR (stR R) 24 else stR R)=s3:=⟨_,rfl⟩;have Yg:=bx hs3;have Pd:=bx (X2n Zh.out HR.out Zu.out h5 X7.out (by rw[Ng.out];exact Wt.out) hs3);clear h5 hs3
        go_upto_if 81 with(fail)
        go_cut [] from 54 to 89 (fun wx=>Bx (PaP w wx b gq gs gr gm cs1 (.slice A7 n1 c7) (cst0::L++[cn]) s3))
        case first=>
         -- DEV{
         have HF:=bx (Y8e gs gr b (stR R) 24 w8 Tt.out.par.src (by decide));by_cases hk:n1=k
         ·have hkI:((n1:Int)==(k:Int))=true:=by rw[hk];exact beq_self_eq_true _
          have HE:Bx (s3=failR (stR R) 24):=bx (by rw[←Yg.out,if_pos hk]);clear hk;go_wp2_with fail
          refine HF.out.mono ?_;rintro e w9 ⟨⟨q,rfl⟩,hs9,hc9⟩;have Pz:Bx (PaP w w9 b gq gs gr gm cs1 (.slice A7 n1 c7) (cst0::L++[cn]) s3):=bx (by rw[HE.out];exact Tt.out.next hs9 hc9);clear hs9 hc9;go_wp2
          go_meet
          case rel=>exact Pz
         ·have hkI:((n1:Int)==(k:Int))=false:=by rw[beq_eq_false_iff_ne];omega
          have HE:Bx (s3=stR R):=bx (by rw[←Yg.out,if_neg hk]);have Pz:Bx (PaP w w8 b gq gs gr gm cs1 (.slice A7 n1 c7) (cst0::L++[cn]) s3):=bx (by rw[HE.out];exact Tt.out);clear hk;go_wp2
          go_meet
          case rel=>exact Pz
         -- DEV}
        case rest=>
        replace hcut:Bx (PaP w wc b gq gs gr gm cs1 (.slice A7 n1 c7) (cst0::L++[cn]) s3):=hcut
        clear Tt Wp q0 m2 Yg;have Zc:=bx (RS.new (fC:=cstC) wc cst0 #[.int .i64 0,.int .i64 0,.int .i64 0,.int .i64 0,.string ⟨#[]⟩] rfl 68 (0,0));have To:=bx (hcut.out.below (Y9z (Below.refl wc.heap.size wc) (Z00 _) (.cells #[.int .i64 0,.int .i64 0,.int .i64 0,.int .i64 0,.string ⟨#[]⟩] 68)));have m2:wc.cell? ⟨gm,2,none⟩=some (.slice A7 n1 c7):=(hcut.out.par.im.cell 2).trans (by rw[←Sk.out];rfl);have hz6:=To.out.sz;have Tp:Bx (((cst0::L++[cn]).length+[cst0].length)*48≤140737488355328):=bx (by have h1:=Ng.out;have h2:=Q7.out;simp only[Z08,Z13,Z20];omega);obtain⟨n2,hn2⟩:∃n2,n1+1=n2:=⟨_,rfl⟩;have Qx:=bx hn2;have Ml:Bx (((cst0::L++[cn])++[cst0]).length=n2):=bx (by rw[Z08,Z08];show L.length+1+1+1=n2;rw[Ng.out,Wt.out];exact hn2);clear hn2;go_step;go_wp2_with (at_builtin;refine Y9v _ cstCels rfl (.tmp 85) (.tmp 87) rfl imCstTy (by decide) (gm+1) (.slice A7 n1 c7) (cst0::L++[cn]) rfl To.out.own (wc.heap.size+1) (some ⟨wc.heap.size,0,none⟩) 1 1 [cst0] rfl rfl Zc.out Tp.out hz6 ?_;intro V9 w9 hO9 hg9 hv9 hb9;obtain⟨A9,c9,e9,-,-⟩:=OwS.rd hO9;replace e9:V9 = .slice A9 n2 c9:=e9.trans (by rw[Ml.out]);subst e9;have Sm:=bx (To.out.app hO9 hb9);have hi9:=To.out.par.over hb9 (Z41 _);have m29:w9.cell? ⟨gm,2,none⟩=some (.slice A7 n1 c7):=(hi9.im.cell 2).trans (by rw[←Sk.out];rfl);have z29:w9.frozen? ⟨gm,2,none⟩=false:=hi9.im.frz 2;clear hO9 hg9 hv9 hb9 hi9)
        have Pm:Bx (poolM gm k (w9.setCell ⟨gm,2,none⟩ (.slice A9 n2 c9))=k-n2):=bx (Y2z ((Sm.out.par.im.cell 2).trans (by rw[←Sk.out];rfl)));clear hcut Zc To hz6 Tp;go_roundw
        case rel=>exact⟨A9,c9,L++[cn]++[cst0],s3,f',m'-1,bx (by rw[show (L++[cn]++[cst0]).length+1=n2 from Ml.out];exact Sm.out),bx Pd.out.1,bx Pd.out.2⟩
        case measure=>rw[Pm.out,Ni.out];have h1:=Qx.out;have h2:=Wt.out;have h3:=Q7.out;omega
       ·have h5b:(cn.tag==5)=false:=by rw[beq_eq_false_iff_ne];exact h5
        have Pd:=bx (X0h Zh.out HR.out Zu.out h5);have HKN:=bx (X7.out.one (c:=cn) (s:=stR R));have Pm:Bx (poolM gm k w8=k-n1):=bx (Y2z m2);clear h5 m2;go_wp2;go_roundw
        case rel=>exact⟨A7,c7,L++[cn],stR R,f',m',bx (by rw[Z08,List.length_singleton,Ng.out,Wt.out];exact Tt.out),bx Pd.out,HKN⟩
        case measure=>rw[Pm.out,Ni.out];have h2:=Wt.out;have h3:=Q7.out;omega
       -- DEV}
end Go.Proofs.YtpmfiegfbmamiaaGreatDoor
