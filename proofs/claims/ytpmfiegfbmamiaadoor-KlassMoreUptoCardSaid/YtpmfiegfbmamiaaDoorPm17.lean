/- Contract: image.Parse. -/
import Derived.Test.YtpmfiegfbmamiaaDoorPm16
import Derived.Test.YtpmfiegfbmamiaaDoorPm3
import Derived.Test.YtpmfiegfbmamiaaDoorPm5
import Derived.Deep.RegionHeld3
import Derived.Deep.RegionWith
import Derived.BigRegion
namespace Go.Proofs.YtpmfiegfbmamiaaDoor
set_option maxRecDepth 100000
set_option maxHeartbeats 16000000
open Go.RowKit
def ParsePost (R:Rz Img) (w:World) (e:Ending) (w':World):Prop:=
 Below w.heap.size w w'∧match R with
  | .ok m=>∃x:ImE,x.p=m∧e = .returned (.tuple #[.agg (imC x),.int .i64 0])∧RIm w' w'.heap.size x
  | .err k=>e = .returned (.tuple #[.agg imZ,.int .i64 k])∧k≠0
theorem W9e {R:Rz Img} {w w':World} {k:Int} (h:R = .err k) (hb:Below w.heap.size w w') (hk:k≠0):ParsePost R w (.returned (.tuple #[.agg imZ,.int .i64 k])) w':=by
 subst h;exact⟨hb,rfl,hk⟩
theorem pp_ok {R:Rz Img} {w w':World} {x:ImE} (h:R = .ok x.p) (hb:Below w.heap.size w w') (hr:RIm w' w'.heap.size x):ParsePost R w (.returned (.tuple #[.agg (imC x),.int .i64 0])) w':=by
 subst h;exact⟨hb,x,rfl,rfl,hr⟩
theorem ifTy:ETy Tryd.prog 30 3 (.int .i64 0) 1 8:=⟨Tryd.underlying30,info_parts (by kernel_rfl),rfl,by decide⟩
theorem W8i (x:ImE):(imC x).all (·.oneCell')=true:=by kernel_rfl
theorem imCstTy:ETy Tryd.prog 25 39 (.agg #[.int .i64 0,.int .i64 0,.int .i64 0,.int .i64 0,.string ⟨#[]⟩]) 5 48:=⟨Tryd.underlying25,info_parts (by kernel_rfl),rfl,by decide⟩
theorem Y6s (tmps:Array Value) (w:World) (g:Nat) (cs:Array Value) (h2:tmps.getD 2 undef = .pointer (some ⟨g,0,none⟩)) (hk:Bk w g 34 cs) (hs:cs.size=10) :
  (results Tryd.f19 tmps).run Tryd.prog w = .ok (.tuple #[.agg cs,tmps.getD 3 undef]) w:=by
 rw[results_cell_tmp (p:=2) (u:=3) (ty:=34) Tryd.results19];have h2':tmps[2]?.getD undef = .pointer (some ⟨g,0,none⟩):=(by simpa using h2);have hl:=run_loadVar_row (P:=Tryd.prog) w g 34 34 cs (0,0) _ hk Tryd.underlying34 rfl (by rw[hs];exact Y9p);simp [h2',asAddr,hl,Result.andThen]
theorem X3m:imZ.all (·.oneCell')=true:=by kernel_rfl
theorem X3q (A:Option Addr) (n c:Nat) (b:List UInt8) (w:World) (hn:b.length=n) (hz:(n:Int)≤140737488355328) (hr:RB w w.heap.size A b) :
  Calls Tryd.prog 19 #[.slice A n c] w (ParsePost (parseP b) w):=by
 have HL:=bx hn;have HR:=bx hr;obtain⟨W,hW⟩:∃W,parseP b=W:=⟨_,rfl⟩;rw[hW];have HW:=bx hW;obtain⟨gq,hq⟩:∃gq,w.heap.size=gq:=⟨_,rfl⟩;have Lu:=bx (Bk.newAt w 34 imZ hq);have Rk:=bx (Y9z (Below.refl w.heap.size w) (Z00 _) (.cells imZ 34));have O1:=bx hq;clear hn hr hW hq
 go_enter Tryd.func19,Tryd.ntmps19
 go_upto_region 1 with(fail)
 rw[O1.out];change Code.wp _ _ _ _ (w.alloc (.cells imZ 34));generalize w.alloc (.cells imZ 34)=w0 at Lu Rk ⊢;by_cases hbig:32768<n
 ·have hbI:(32768:Int)<(n:Int):=by omega
  have HN:Bx (W = .err 8):=bx (by rw[←HW.out];unfold parseP;rw[if_pos (by rw[HL.out];exact hbig)]);go_wp2_with (refine wpList_store_row rfl 34 (.tmp 2) (.tmp 12) rfl gq imZ rfl rfl 34 imZ Lu.out Y9p rfl X3m ?_)
  exact bodyPost_ret (v := .tuple #[.agg imZ,.int .i64 8]) (Y6s _ _ gq imZ rfl (Lu.out.setRow imZ) rfl) rfl (W9e HN.out (bl_setRow Rk.out (by rw[O1.out];exact Z00 _) imZ) (by decide))
 ·have hbI:¬(32768:Int)<(n:Int):=by omega
  have Kw:Bx (b.length≤1000000):=bx (by rw[HL.out];omega);have Y6:=bx (HR.out.step Rk.out);have hgq:gq<w0.heap.size:=Lu.out.lt;go_wp2_with fail
  refine(W6k A n c w0 b HL.out hz Y6.out).mono ?_
  rintro e w1 ⟨gr,rfl,hgr,hrd,hb1⟩;obtain⟨gs,hgs⟩:∃gs,w1.heap.size=gs:=⟨_,rfl⟩;have Te:Bx (Pa0 w (w1.alloc (.cells #[.pointer (some ⟨gr,0,none⟩),.int .i64 0] 110)) b gq gs gr (.ok 0)):=bx (by have hl:=hrd.ltr;have hbb:Below w1.heap.size w1 (w1.alloc (.cells #[.pointer (some ⟨gr,0,none⟩),.int .i64 0] 110)):=Y9z (Below.refl _ _) (Z00 _) _;have hb9:=hb1.size;have hq1:Bk w1 gq 34 imZ:=Lu.out.below hb1 hgq;have hs0:=Rk.out.size;exact⟨(Rk.out.trans (hb1.mono Rk.out.size)).trans (hbb.mono (by omega)),hq1.alloc _,⟨0,false,0,Bk.newAt _ _ _ hgs,hrd.below hbb,by omega,rfl,rfl,rfl⟩,⟨by rw[←O1.out];exact Z00 _,by omega,by omega⟩,⟨by omega,by omega⟩⟩);have E1:=bx hgs;clear hrd hb1 hgs hgq hgr Lu Rk HR Y6;go_upto_region 4 with(fail)
  rw[E1.out];generalize w1.alloc (.cells #[.pointer (some ⟨gr,0,none⟩),.int .i64 0] 110)=w2 at Te ⊢;clear E1;obtain⟨r0,hr0⟩:∃r,onR (.ok 0) (rdN 4) b=r:=⟨_,rfl⟩;have Gx:=bx (Y9s gs gr 4 b (.ok 0) w2 Te.out.src (by decide) (by decide));rw[hr0]at Gx;obtain⟨x0,hx0⟩:∃x,valN r0=x:=⟨_,rfl⟩;rw[hx0]at Gx;obtain⟨s1,hs1⟩:∃s,(if valN r0≠3405691582 then failR (stR r0) 24 else stR r0)=s:=⟨_,rfl⟩;have Gh:=bx hr0;have Sg:=bx hs1;have Li:=bx hx0;clear hr0 hs1 hx0;go_wp2_with fail
  refine Gx.out.mono ?_;rintro e w3 ⟨rfl,hs3,hc3⟩;have Vl:=bx (Te.out.next hs3 hc3);clear hs3 hc3 Gx Te
  go_upto_if 19 with(fail)
  go_cut [4] (fun v wx=>v = .pointer (some ⟨gs,0,none⟩)∧Bx (Pa0 w wx b gq gs gr s1))
  case first=>
   -- DEV{
   by_cases hm:x0=3405691582
   ·have HE:Bx (s1=stR r0):=bx (by rw[←Sg.out,if_neg (by rw[Li.out];exact fun h=>h hm)])
    have hm1:(x0 != 3405691582)=false:=(by simp [hm]);have N9:Bx (Pa0 w w3 b gq gs gr s1):=bx (by rw[HE.out];exact Vl.out);clear hm;go_wp2
    go_meet
    case rel=>exact⟨rfl,N9⟩
   ·have HE:Bx (s1=failR (stR r0) 24):=bx (by rw[←Sg.out,if_pos (by rw[Li.out];exact hm)])
    have hm1:(x0 != 3405691582)=true:=(by simp [hm]);have HF:=bx (Y8e gs gr b (stR r0) 24 w3 Vl.out.src (by decide));clear hm;go_wp2_with fail
    refine HF.out.mono ?_;rintro e w4 ⟨⟨q,rfl⟩,hs4,hc4⟩;have N9:Bx (Pa0 w w4 b gq gs gr s1):=bx (by rw[HE.out];exact Vl.out.next hs4 hc4);clear hs4 hc4;go_wp2
    go_meet
    case rel=>exact⟨rfl,N9⟩
   -- DEV}
  case rest=>
   obtain⟨rfl,HP⟩:=hcut;clear Vl;obtain⟨r2,hr2⟩:∃r,onR s1 (rdN 2) b=r:=⟨_,rfl⟩;have Ts:=bx (Y9s gs gr 2 b s1 wc HP.out.src (by decide) (by decide));have hv2:=Y7q 2 s1 b;rw[hr2]at Ts hv2;obtain⟨x2,hx2⟩:∃x,valN r2=x:=⟨_,rfl⟩;rw[hx2]at Ts hv2;have Tc:=bx hv2;have Wx:=bx hr2;have Ss:=bx hx2;clear hr2 hx2 hv2;go_step;go_wp2_with fail
   refine Ts.out.mono ?_;rintro e w5 ⟨rfl,hs5,hc5⟩;have Nu:=bx ((HP.out.next hs5 hc5).make #[.int .i64 x2,.int .i64 0,.slice none 0 0,.int .i64 0,.int .i64 0,.int .i64 0,.slice none 0 0,.slice none 0 0,.slice none 0 0,.slice none 0 0]);obtain⟨gm,hgm⟩:∃gm,w5.heap.size=gm:=⟨_,rfl⟩;have Ph:=bx hgm;rw[hgm]at Nu;clear hs5 hc5 Ts hgm HP;go_upto_region 7 with(fail)
   rw[Ph.out];generalize w5.alloc (.cells #[.int .i64 x2,.int .i64 0,.slice none 0 0,.int .i64 0,.int .i64 0,.int .i64 0,.slice none 0 0,.slice none 0 0,.slice none 0 0,.slice none 0 0] 34)=w6 at Nu ⊢;obtain⟨r3,hr3⟩:∃r,onR (stR r2) (rdN 2) b=r:=⟨_,rfl⟩;have Qy:=bx (Y9s gs gr 2 b (stR r2) w6 Nu.out.src (by decide) (by decide));have hv3:=Y7q 2 (stR r2) b;rw[hr3]at Qy hv3;obtain⟨x3,hx3⟩:∃x,valN r3=x:=⟨_,rfl⟩;rw[hx3]at Qy hv3;have Mp:=bx hv3;have Vf:=bx hr3;have Pn:=bx hx3;clear hr3 hx3 hv3 Ph;go_wp2_with fail
   refine Qy.out.mono ?_;rintro e w7 ⟨rfl,hs7,hc7⟩;have Tv:=bx (Nu.out.next hs7 hc7);have Lb:=bx (Tv.out.set 1 (.int .i64 x3));have m1:w7.cell? ⟨gm,1,none⟩=some (.int .i64 0):=(Tv.out.im.cell 1).trans rfl;have z1:w7.frozen? ⟨gm,1,none⟩=false:=Tv.out.im.frz 1;clear hs7 hc7 Qy Nu;go_upto_region 8 with(fail)
   clear m1 z1;generalize w7.setCell ⟨gm,1,none⟩ (.int .i64 x3)=w8 at Lb ⊢;have m1:w8.cell? ⟨gm,1,none⟩=some (.int .i64 x3):=(Lb.out.im.cell 1).trans rfl;obtain⟨cs1,hcs1⟩:∃cs:Array Value,#[.int .i64 x2,.int .i64 x3,.slice none 0 0,.int .i64 0,.int .i64 0,.int .i64 0,.slice none 0 0,.slice none 0 0,.slice none 0 0,.slice none 0 0]=cs:=⟨_,rfl⟩;have So:Bx (PaR w w8 b gq gs gr gm cs1 (stR r3)):=bx (by rw[←hcs1];exact Lb.out);have Sn:=bx hcs1;obtain⟨s4,hs4⟩:∃s,(if valN r3<45∨52<valN r3 then failR (stR r3) 24 else stR r3)=s:=⟨_,rfl⟩;have Yn:=bx hs4;clear hs4 Tv Lb hcs1;obtain⟨qb,hqb⟩:∃q,decide (x3<45∨52<x3)=q:=⟨_,rfl⟩;have Tr:=bx hqb;clear hqb
   go_cut [35] (fun v wx=>v = .bool qb∧w8=wx)
   case first=>
    -- DEV{
    by_cases ha:x3<45
    ·have HE:Bx (qb=true):=bx (by rw[←Tr.out];exact Z47 (.inl ha))
     go_wp2
     go_meet
     case rel=>exact⟨by rw[HE.out];try rfl,rfl⟩
    ·by_cases hb:52<x3
     ·have HE:Bx (qb=true):=bx (by rw[←Tr.out];exact Z47 (.inr hb))
      go_wp2
      go_meet
      case rel=>exact⟨by rw[HE.out];try rfl,rfl⟩
     ·have HE:Bx (qb=false):=bx (by rw[←Tr.out];exact Z48 (by omega))
      go_wp2
      go_meet
      case rel=>exact⟨by rw[HE.out];try rfl,rfl⟩
    -- DEV}
   case rest=>
   obtain⟨rfl,rfl⟩:=hcut
   go_upto_if 35 with(fail)
   go_cut [4,5] (fun v v5 wx=>v = .pointer (some ⟨gs,0,none⟩)∧v5 = .pointer (some ⟨gm,0,none⟩)∧Bx (PaR w wx b gq gs gr gm cs1 s4))
   case first=>
    -- DEV{
    have HF:=bx (Y8e gs gr b (stR r3) 24 w8 So.out.src (by decide));cases qb with
    | true=>
     have HE:Bx (s4=failR (stR r3) 24):=bx (by rw[←Yn.out,if_pos (by rw[Pn.out];exact Z49 Tr.out)]);go_wp2_with fail
     refine HF.out.mono ?_;rintro e w9 ⟨⟨q,rfl⟩,hs9,hc9⟩;have Pz:Bx (PaR w w9 b gq gs gr gm cs1 s4):=bx (by rw[HE.out];exact So.out.next hs9 hc9);clear hs9 hc9;go_wp2
     go_meet
     case rel=>exact⟨rfl,rfl,Pz⟩
    | false=>
     have HE:Bx (s4=stR r3):=bx (by rw[←Yn.out,if_neg (by rw[Pn.out];exact of_decide_eq_false Tr.out)]);have Pz:Bx (PaR w w8 b gq gs gr gm cs1 s4):=bx (by rw[HE.out];exact So.out);go_wp2
     go_meet
     case rel=>exact⟨rfl,rfl,Pz⟩
    -- DEV}
   case rest=>
    obtain⟨rfl,rfl,Rc⟩:=hcut;clear So m1;obtain⟨r5,hr5⟩:∃r,onR s4 (rdN 2) b=r:=⟨_,rfl⟩;have Jy:=bx (Y9s gs gr 2 b s4 wc Rc.out.src (by decide) (by decide));have hv5:=Y7q 2 s4 b;rw[hr5]at Jy hv5;obtain⟨k,hk⟩:∃k:Nat,valN r5=(k:Int):=⟨(valN r5).toNat,by omega⟩;rw[hk]at Jy hv5;have P6:Bx (k<65536):=bx (by have:=hv5.2;have:(k:Int)<65536:=this;omega);have To:=bx hr5;have Zm:=bx hk;obtain⟨s6,hs6⟩:∃s,(if (k:Int)<1∨1024<(k:Int) then failR (stR r5) 24 else stR r5)=s:=⟨_,rfl⟩;have Xx:=bx hs6;obtain⟨qc,hqc⟩:∃q,decide ((k:Int)<1∨1024<(k:Int))=q:=⟨_,rfl⟩;have Tq:=bx hqc;clear hr5 hk hv5 hs6 hqc;go_step;go_wp2_with fail
    refine Jy.out.mono ?_;rintro e w10 ⟨rfl,hs10,hc10⟩;have Jx:=bx (Rc.out.next hs10 hc10);clear hs10 hc10 Jy Rc;go_upto_region 11 with(fail)
    go_cut [45] (fun v wx=>v = .bool qc∧w10=wx)
    case first=>
     -- DEV{
     by_cases ha:(k:Int)<1
     ·have HE:Bx (qc=true):=bx (by rw[←Tq.out];exact Z47 (.inl ha))
      go_wp2
      go_meet
      case rel=>exact⟨by rw[HE.out];try rfl,rfl⟩
     ·by_cases hb:1024<(k:Int)
      ·have HE:Bx (qc=true):=bx (by rw[←Tq.out];exact Z47 (.inr hb))
       go_wp2
       go_meet
       case rel=>exact⟨by rw[HE.out];try rfl,rfl⟩
      ·have HE:Bx (qc=false):=bx (by rw[←Tq.out];exact Z48 (by omega))
       go_wp2
       go_meet
       case rel=>exact⟨by rw[HE.out];try rfl,rfl⟩
     -- DEV}
    case rest=>
    obtain⟨rfl,rfl⟩:=hcut
    go_upto_if 45 with(fail)
    go_cut [4,5,6] (fun v v5 v6 wx=>v = .pointer (some ⟨gs,0,none⟩)∧v5 = .pointer (some ⟨gm,0,none⟩)∧v6 = .int .i64 (k:Int)∧Bx (PaR w wx b gq gs gr gm cs1 s6))
    case first=>
     -- DEV{
     have HF:=bx (Y8e gs gr b (stR r5) 24 w10 Jx.out.src (by decide));cases qc with
     | true=>
      have HE:Bx (s6=failR (stR r5) 24):=bx (by rw[←Xx.out,if_pos (Z49 Tq.out)]);go_wp2_with fail
      refine HF.out.mono ?_;rintro e w9 ⟨⟨q,rfl⟩,hs9,hc9⟩;have Dx:Bx (PaR w w9 b gq gs gr gm cs1 s6):=bx (by rw[HE.out];exact Jx.out.next hs9 hc9);clear hs9 hc9;go_wp2
      go_meet
      case rel=>exact⟨rfl,rfl,rfl,Dx⟩
     | false=>
      have HE:Bx (s6=stR r5):=bx (by rw[←Xx.out,if_neg (of_decide_eq_false Tq.out)]);have Dx:Bx (PaR w w10 b gq gs gr gm cs1 s6):=bx (by rw[HE.out];exact Jx.out);go_wp2
      go_meet
      case rel=>exact⟨rfl,rfl,rfl,Dx⟩
     -- DEV}
    case rest=>
     obtain⟨rfl,rfl,rfl,Vp⟩:=hcut;clear Jx;have Zd:=bx (RS.new (fC:=cstC) wc cst0 #[.int .i64 0,.int .i64 0,.int .i64 0,.int .i64 0,.string ⟨#[]⟩] rfl 39 (0,0));have N8:=bx (Y9z (Below.refl wc.heap.size wc) (Z00 _) (.cells #[.int .i64 0,.int .i64 0,.int .i64 0,.int .i64 0,.string ⟨#[]⟩] 39));have m2:wc.cell? ⟨gm,2,none⟩=some (.slice none 0 0):=(Vp.out.im.cell 2).trans (by rw[←Sn.out];rfl);have hz6:wc.heap.size≤(wc.alloc (.cells #[.int .i64 0,.int .i64 0,.int .i64 0,.int .i64 0,.string ⟨#[]⟩] 39)).heap.size:=N8.out.size;go_step;go_wp2_with (at_builtin;refine Y9y _ cstCels rfl (.tmp 49) (.tmp 51) rfl imCstTy (by decide) wc.heap.size (.slice none 0 0) [] rfl OwS.nil (wc.heap.size+1) (some ⟨wc.heap.size,0,none⟩) 1 1 [cst0] rfl rfl Zd.out (by decide) hz6 ?_;intro V7 w7 hO7 hg7 hv7 hb7;obtain⟨A7,c7,e7,-,-⟩:=OwS.rd hO7;replace e7:V7 = .slice A7 1 c7:=e7;subst e7;have Qo:=bx hO7;have Tv:=bx (Vp.out.below (N8.out.trans hb7));have m27:w7.cell? ⟨gm,2,none⟩=some (.slice none 0 0):=(Tv.out.im.cell 2).trans (by rw[←Sn.out];rfl);have z27:w7.frozen? ⟨gm,2,none⟩=false:=Tv.out.im.frz 2;clear hO7 hg7 hv7 hb7)
     have hgm:gm+1≤wc.heap.size:=Vp.out.im.lt;have N7:Bx (PaP w (w7.setCell ⟨gm,2,none⟩ (.slice A7 1 c7)) b gq gs gr gm cs1 (.slice A7 1 c7) [cst0] s6):=bx ⟨Tv.out.set 2 _,(Qo.out.low hgm).set_other (fun e=>by have:=(Qo.out.blk e).1;simp only at this;omega) _⟩;obtain⟨R7,hR7⟩:∃R,poolR b [cst0] s6 k (k-1)=R:=⟨_,rfl⟩;have Sz:=bx hR7;have Ps:=bx (PoolAt.start Xx.out);clear m27 z27 hgm hR7 Tv Qo Vp N8 Zd m2 hz6;generalize w7.setCell ⟨gm,2,none⟩ (.slice A7 1 c7)=w8 at N7 ⊢
     go_loopw [] (fun wx=>∃(A:Option Addr) (c:Nat) (L:List Cst) (s':Rz Nat) (f m:Nat),Bx (PaP w wx b gq gs gr gm cs1 (.slice A (L.length+1) c) (cst0::L) s')∧Bx (poolR b (cst0::L) s' f m=R7)∧Bx (PoolAt L s' f m k)) (fun wx=>poolM gm k wx)
     case atStart=>exact⟨A7,c7,[],s6,k,k-1,N7,Sz,Ps⟩
     case round=>
      clear N7 Ps;obtain⟨A,c,L,s',f,m,HP,Zi,Y5⟩:=hrel;obtain⟨nV,hnV⟩:∃nV,L.length+1=nV:=⟨_,rfl⟩;have Nd:=bx hnV;rw[hnV]at HP;clear hnV;have m2:wr.cell? ⟨gm,2,none⟩=some (.slice A nV c):=(HP.out.par.im.cell 2).trans (by rw[←Sn.out];rfl);obtain⟨qd,hqd⟩:∃q:Bool,(q=true↔nV<k∧∃p,s' = .ok p):=X6b _;have Pc:=bx hqd;clear hqd;go_upto_region 14 with(fail)
      go_cut [65] from 54 to 89 (fun v wx=>v = .bool qd∧wr=wx)
      case first=>
       -- DEV{
       cases s' with
       | err e=>
        have HE:Bx (qd=false):=bx (Bool.eq_false_iff.2 fun h=>by obtain⟨_,p,hp⟩:=Pc.out.1 h;cases hp);obtain⟨hB1,hk0⟩:=HP.out.par.src.err_;have c1:wr.cell? ⟨gs,1,none⟩=some (.int .i64 e):=(hB1.cell 1).trans rfl;have hkI:(e==0)=false:=by rw[beq_eq_false_iff_ne];exact hk0
        clear hB1 hk0;by_cases hl:nV<k
        ·have hlI:(nV:Int)<(k:Int):=by omega
         clear hl;go_wp2
         go_meet
         case rel=>exact⟨by rw[HE.out];try rfl,rfl⟩
        ·have hlI:¬(nV:Int)<(k:Int):=by omega
         clear hl;go_wp2
         go_meet
         case rel=>exact⟨by rw[HE.out];try rfl,rfl⟩
       | ok p=>
        obtain⟨hB1,_,_⟩:=HP.out.par.src.ok_;have c1:wr.cell? ⟨gs,1,none⟩=some (.int .i64 0):=(hB1.cell 1).trans rfl;clear hB1;by_cases hl:nV<k
        ·have HE:Bx (qd=true):=bx (Pc.out.2 ⟨hl,p,rfl⟩)
         have hlI:(nV:Int)<(k:Int):=(by omega);clear hl;go_wp2
         go_meet
         case rel=>exact⟨by rw[HE.out];try rfl,rfl⟩
        ·have HE:Bx (qd=false):=bx (Bool.eq_false_iff.2 fun h=>hl (Pc.out.1 h).1)
         have hlI:¬(nV:Int)<(k:Int):=(by omega);clear hl;go_wp2
         go_meet
         case rel=>exact⟨by rw[HE.out];try rfl,rfl⟩
       -- DEV}
      case rest=>
      obtain⟨rfl,rfl⟩:=hcut;cases qd with
      | false=>
       have he:=Y5.out.done (fun h=>by
        have:=Pc.out.2 ⟨by rw[←Nd.out];exact h.1,h.2⟩
        cases this)
       have Bg:=bx (X1x Zi.out he);obtain⟨x0,hx0⟩:∃x:ImE,x=⟨x2,x3,A,nV,c,cst0::L,0,0,0,none,0,0,[],none,0,0,[],none,0,0,[],none,0,0,[]⟩:=⟨_,rfl⟩;have HX:Bx (PaX w wr b gq gs gr gm wr.heap.size x0 s'):=bx (by have h:=HP.out;rw[←Sn.out]at h;rw[hx0];exact h.fin);have Li:=bx hx0;obtain⟨he1,Y4⟩:stR R7=s'∧Bx (∀x,R7 = .ok x→(cst0::L)=x.1):=⟨Bg.out.1,bx Bg.out.2⟩;clear Bg;subst he1;clear he hx0 HP Zi Y5 Pc m2;go_step;obtain⟨r8,hr8⟩:∃r,onR (stR R7) (rdN 2) b=r:=⟨_,rfl⟩;have Vz:=bx (Y9s gs gr 2 b (stR R7) wr HX.out.par.src (by decide) (by decide));rw[hr8]at Vz;obtain⟨v8,hv8⟩:∃x,valN r8=x:=⟨_,rfl⟩;rw[hv8]at Vz;have Qf:=bx hr8;have HV8:=bx hv8;clear hr8 hv8;go_wp2_with fail
       refine Vz.out.mono ?_;rintro e w11 ⟨rfl,hs11,hc11⟩;have Sy:=bx (HX.out.next hs11 hc11);have m3:w11.cell? ⟨gm,3,none⟩=some (.int .i64 x0.access):=Sy.out.par.im.im3 rfl;have z3:w11.frozen? ⟨gm,3,none⟩=false:=Sy.out.par.im.frz 3;clear hs11 hc11 Vz HX;obtain⟨x1,hx1⟩:∃x:ImE,x={ x0 with access:=v8 }:=⟨_,rfl⟩;have Tk:=bx (Sy.out.num3 v8);rw[←hx1]at Tk;have Zu:=bx hx1;clear hx1 Sy;go_upto_region 22 with(fail)
       clear m3 z3;generalize w11.setCell ⟨gm,3,none⟩ (.int .i64 v8)=w12 at Tk ⊢;obtain⟨r9,hr9⟩:∃r,onR (stR r8) (rdN 2) b=r:=⟨_,rfl⟩;have Ky:=bx (Y9s gs gr 2 b (stR r8) w12 Tk.out.par.src (by decide) (by decide));rw[hr9]at Ky;obtain⟨v9,hv9⟩:∃x,valN r9=x:=⟨_,rfl⟩;rw[hv9]at Ky;have Kk:=bx hr9;have Wl:=bx hv9;clear hr9 hv9;go_wp2_with fail
       refine Ky.out.mono ?_;rintro e w13 ⟨rfl,hs11,hc11⟩;have Sy:=bx (Tk.out.next hs11 hc11);have m3:w13.cell? ⟨gm,4,none⟩=some (.int .i64 x1.this):=Sy.out.par.im.im4 rfl;have z3:w13.frozen? ⟨gm,4,none⟩=false:=Sy.out.par.im.frz 4;clear hs11 hc11 Ky Tk;obtain⟨x4,hx4⟩:∃x:ImE,x={ x1 with this:=v9 }:=⟨_,rfl⟩;have Tk:=bx (Sy.out.num4 v9);rw[←hx4]at Tk;have Pp:=bx hx4;clear hx4 Sy;go_upto_region 23 with(fail)
       clear m3 z3;generalize w13.setCell ⟨gm,4,none⟩ (.int .i64 v9)=w14 at Tk ⊢;obtain⟨r10,hr10⟩:∃r,onR (stR r9) (rdN 2) b=r:=⟨_,rfl⟩;have Jw:=bx (Y9s gs gr 2 b (stR r9) w14 Tk.out.par.src (by decide) (by decide));rw[hr10]at Jw;obtain⟨v10,hv10⟩:∃x,valN r10=x:=⟨_,rfl⟩;rw[hv10]at Jw;have N6:=bx hr10;have N5:=bx hv10;clear hr10 hv10;go_wp2_with fail
       refine Jw.out.mono ?_;rintro e w15 ⟨rfl,hs11,hc11⟩;have Sy:=bx (Tk.out.next hs11 hc11);have m3:w15.cell? ⟨gm,5,none⟩=some (.int .i64 x4.super):=Sy.out.par.im.im5 rfl;have z3:w15.frozen? ⟨gm,5,none⟩=false:=Sy.out.par.im.frz 5;clear hs11 hc11 Jw Tk;obtain⟨x5,hx5⟩:∃x:ImE,x={ x4 with super:=v10 }:=⟨_,rfl⟩;have Tk:=bx (Sy.out.num5 v10);rw[←hx5]at Tk;have Ya:=bx hx5;clear hx5 Sy;go_upto_region 24 with(fail)
       clear m3 z3;generalize w15.setCell ⟨gm,5,none⟩ (.int .i64 v10)=w16 at Tk ⊢;have U1:=bx (Y4y gs gr b (stR r10) w16 Tk.out.par.src);obtain⟨rc,hrc⟩:∃r,onR (stR r10) cntI b=r:=⟨_,rfl⟩;have hvc:=X6q (s:=stR r10) (b:=b);rw[hrc]at U1 hvc;obtain⟨ni,hni⟩:∃ni:Nat,valN rc=(ni:Int):=⟨(valN rc).toNat,by omega⟩;rw[hni]at U1 hvc;obtain⟨RR,hRR⟩:∃R,repR (rdN 2) b [] (stR rc) ni=R:=⟨_,rfl⟩;obtain⟨r11,hr11⟩:∃r:Rz (List Int×Nat),(RR.bind fun z => .ok (z.1.map (fun x:Nat=>(x:Int)),z.2))=r:=⟨_,rfl⟩;have N4:Bx (onR (stR r10) ifP b=r11):=bx (by rw[X0k hrc hni,hRR];exact hr11);have Fq:=bx hr11;have Zi:=bx hRR;have hn64:ni≤64:=(by omega);have Y3:Bx (([]:List Nat).length+ni≤64):=bx (by simpa using hn64);clear hrc hvc hni hRR hr11 hn64;go_wp2_with fail
       refine U1.out.mono ?_;rintro e w17 ⟨rfl,hs11,hc11⟩;have Mu:=bx (Tk.out.next hs11 hc11);have N3:=bx (Mu.out.start (V := .slice none 0 0) (by rw[Ya.out,Pp.out,Zu.out,Li.out]) rfl);have M9:=bx Mu.out.le;clear hs11 hc11 U1 Tk Mu;obtain⟨n17,hn17⟩:∃n,w17.heap.size=n:=⟨_,rfl⟩;rw[hn17]at N3;clear hn17 M9;obtain⟨wb,hwb⟩:∃wb,wb=wr:=⟨_,rfl⟩;subst hwb;go_wp2_with fail
       go_loopw [8] (fun nv wx=>∃(A:Option Addr) (c m:Nat) (LN:List Nat) (s':Rz Nat),nv = .int .i64 (m:Int)∧Bx (LN.length+m≤64)∧Bx (PaI w wx b gq gs gr gm n17 x5 (.slice A LN.length c) (LN.map (fun x:Nat=>(x:Int))) s')∧Bx (repR (rdN 2) b LN s' m=RR)) (fun nv _=>(intOf nv).toNat)
       case atStart=>exact⟨none,0,ni,[],stR rc,rfl,Y3,N3,Zi⟩
       case round=>
        clear N3 Zi Y3;obtain⟨Ai,ci,m,LN,s',rfl,U0,HP,M8⟩:=hrel;obtain⟨nI,hnI⟩:∃nI,LN.length=nI:=⟨_,rfl⟩;have HNI:=bx hnI;rw[hnI]at HP;clear hnI;cases m with
        | zero=>
         have Dw:=bx (W5p M8.out Fq.out);have HX:=bx HP.out.fin;have hmI:¬(0:Int)<((0:Nat):Int):=(by omega);obtain⟨he11,M7⟩:stR r11=s'∧Bx (∀x,r11 = .ok x→LN.map (fun x:Nat=>(x:Int))=x.1):=⟨Dw.out.1,bx Dw.out.2⟩;clear HP M8 U0 Dw;subst he11;obtain⟨x6,hx6⟩:∃x:ImE,x={ x5 with iA:=Ai,i_n:=nI,ic:=ci,ifs:=LN.map (fun x:Nat=>(x:Int)) }:=⟨_,rfl⟩;rw[←hx6]at HX;have Xr:=bx hx6;clear hx6;obtain⟨r12,hr12⟩:∃r,onR (stR r11) memsP b=r:=⟨_,rfl⟩;have Dv:=bx (Y2f gs gr b (stR r11) wr HX.out.par.src);rw[hr12]at Dv;have M6:=bx hr12;obtain⟨n12,hn12⟩:∃n,wr.heap.size=n:=⟨_,rfl⟩;have HN12:=bx hn12;clear hr12 hn12;go_wp2_with fail
         refine Dv.out.mono ?_;rintro e w20 ⟨V1,L1,rfl,hmm1,hl1,hx1⟩;have Jv:=bx hmm1;have Kg:=bx hx1;have Sy:=bx (HX.out.next hmm1.src hmm1.ch);clear hmm1 hl1 hx1 Dv HX;obtain⟨r13,hr13⟩:∃r,onR (stR r12) memsP b=r:=⟨_,rfl⟩;have Du:=bx (Y2f gs gr b (stR r12) w20 Sy.out.par.src);rw[hr13]at Du;have M5:=bx hr13;clear hr13;go_wp2_with fail
         refine Du.out.mono ?_;rintro e w21 ⟨V2,L2,rfl,hmm2,hl2,hx2⟩;have Ju:=bx hmm2;have M4:=bx hx2;have Tk:=bx (Sy.out.next hmm2.src hmm2.ch);have hgn:gm<wr.heap.size:=Sy.out.gn;have hgo:gm<w20.heap.size:=Z07 hgn Sy.out.le;obtain⟨A1,c1,e1,-,-⟩:=OwS.rd Jv.out.own;obtain⟨n1,hn1⟩:∃n,L1.length=n:=⟨_,rfl⟩;rw[hn1]at e1;subst e1;obtain⟨A2,c2,e2,-,-⟩:=OwS.rd Ju.out.own;obtain⟨n2,hn2⟩:∃n,L2.length=n:=⟨_,rfl⟩;rw[hn2]at e2;subst e2;have Rm:=bx (W9f (Jv.out.own.ch hmm2.ch (Sy.out.par.two hgn)) (Jv.out.sub.ch hmm2.ch (Sy.out.par.two hgn)) hgn);have Wt:=bx (W9f Ju.out.own Ju.out.sub hgo);have Mu:=bx (Tk.out.top.mem2 Rm.out Wt.out);have m7:w21.cell? ⟨gm,7,none⟩=some (.slice x6.fA x6.fn x6.fc):=Tk.out.par.im.im7 rfl;have m8:w21.cell? ⟨gm,8,none⟩=some (.slice x6.mA x6.mn x6.mc):=Tk.out.par.im.im8 rfl;have z7:w21.frozen? ⟨gm,7,none⟩=false:=Tk.out.par.im.frz 7;have z8:w21.frozen? ⟨gm,8,none⟩=false:=Tk.out.par.im.frz 8;obtain⟨x8,hx8⟩:∃x:ImE,x={ x6 with fA:=A1,fn:=n1,fc:=c1,fs:=L1,mA:=A2,mn:=n2,mc:=c2,ms:=L2 }:=⟨_,rfl⟩;rw[←hx8]at Mu;have Bn:=bx hx8;obtain⟨n21,hn21⟩:∃n,w21.heap.size=n:=⟨_,rfl⟩;rw[hn21]at Mu;clear hn21 hx8 hmm2 hl2 hx2 Du Sy Tk hgn hgo hn1 hn2 Rm Wt Jv Ju;go_upto_region 29 with(fail)
         clear m7 m8 z7 z8;generalize (w21.setCell ⟨gm,7,none⟩ (.slice A1 n1 c1)).setCell ⟨gm,8,none⟩ (.slice A2 n2 c2)=w22 at Mu ⊢;obtain⟨r14,hr14⟩:∃r,onR (stR r13) attsP b=r:=⟨_,rfl⟩;have Dt:=bx (Y4b gs gr b (stR r13) w22 Mu.out.par.src);rw[hr14]at Dt;have M3:=bx hr14;clear hr14;go_wp2_with fail
         refine Dt.out.mono ?_;rintro e w23 ⟨V3,L3,rfl,hmm3,hl3,hx3⟩;have M2:=bx hx3;have T9:=bx (Mu.out.next hmm3.src hmm3.ch);have hgo:gm<w22.heap.size:=Z07 Mu.out.gn Mu.out.le;obtain⟨A3,c3,e3,-,-⟩:=OwS.rd hmm3.own;obtain⟨n3,hn3⟩:∃n,L3.length=n:=⟨_,rfl⟩;rw[hn3]at e3;subst e3;have Cs:=bx (W5s hmm3.own hmm3.sub hgo);have Gw:=bx (T9.out.top.att1 Cs.out);have m9:w23.cell? ⟨gm,9,none⟩=some (.slice x8.aA x8.an x8.ac):=T9.out.par.im.im9 rfl;have z9:w23.frozen? ⟨gm,9,none⟩=false:=T9.out.par.im.frz 9;obtain⟨x9,hx9⟩:∃x:ImE,x={ x8 with aA:=A3,an:=n3,ac:=c3,as_:=L3 }:=⟨_,rfl⟩;rw[←hx9]at Gw;have Bm:=bx hx9;obtain⟨n23,hn23⟩:∃n,w23.heap.size=n:=⟨_,rfl⟩;rw[hn23]at Gw;clear hn23 hx9 hmm3 hl3 hx3 Dt T9 Mu hgo hn3 Cs;go_upto_region 30 with(fail)
         clear m9 z9;generalize w23.setCell ⟨gm,9,none⟩ (.slice A3 n3 c3)=w24 at Gw ⊢;have Rn:Bx ((x9.p=⟨x2,x3,cst0::L,v8,v9,v10,LN.map (fun x:Nat=>(x:Int)),L1.map MmE.p,L2.map MmE.p,L3.map AtE.p⟩)):=bx (by rw[Bm.out,Bn.out,Xr.out,Ya.out,Pp.out,Zu.out,Li.out];rfl);have Vr:Bx (W=(fin15 r14 b x9.p).bind (fun _ => .ok x9.p)∧∀z,r14 = .ok z→imgP b 0 = .ok (x9.p,z.2)):=bx (by have hc1:=X2t Gh.out Sg.out;have hc2:=X4a Wx.out Vf.out Yn.out;have hc5:=X5l (mi:=(valN r2).toNat) (ma:=(valN r3).toNat) To.out Zm.out Xx.out;rw[←HW.out];refine X6u (by rw[HL.out];omega) (hc1.trans (hc2.trans hc5)) Sz.out Qf.out Kk.out N6.out N4.out M6.out M5.out M3.out Y4.out M7.out Kg.out M4.out M2.out ?_;rw[Rn.out,Ss.out,Pn.out,HV8.out,Wl.out,N5.out,Z26 Tc.out.1,Z26 Mp.out.1]);obtain⟨qz,hqz⟩:∃q:Bool,(q=true↔∃z,r14 = .ok z∧(z.2≠b.length∨holdsP x9.p=false)):=X6b _;have Cj:=bx hqz;obtain⟨s15,hs15⟩:∃s,fin15 r14 b x9.p=s:=⟨_,rfl⟩;have Ds:=bx hs15;clear hqz hs15
         go_cut [138] from 121 to 138 (fun v wx=>v = .bool qz∧Bx (PaX w wx b gq gs gr gm n23 x9 (stR r14)))
         case first=>
          -- DEV{
          cases r14 with
          | err k9=>
           have HE:Bx (qz=false):=bx (Bool.eq_false_iff.2 fun h=>by obtain⟨z,hz,_⟩:=Cj.out.1 h;cases hz);have hsr:Src w24 gs gr b (.err k9):=Gw.out.par.src;obtain⟨hB1,hk0⟩:=hsr.err_;have c1:w24.cell? ⟨gs,1,none⟩=some (.int .i64 k9):=(hB1.cell 1).trans rfl;have hkI:(k9==0)=false:=by rw[beq_eq_false_iff_ne];exact hk0
           clear hB1 hk0 hsr;go_wp2
           go_meet
           case rel=>exact⟨by rw[HE.out];try rfl,Gw⟩
          | ok z=>
           have hsr:Src w24 gs gr b (.ok z.2):=Gw.out.par.src;obtain⟨hB1,hR1,_⟩:=hsr.ok_;have c0:w24.cell? ⟨gs,0,none⟩=some (.pointer (some ⟨gr,0,none⟩)):=(hB1.cell 0).trans rfl;have c1:w24.cell? ⟨gs,1,none⟩=some (.int .i64 0):=(hB1.cell 1).trans rfl;have hle:z.2≤b.length:=by obtain⟨_,_,_,_,_,_,_,h⟩:=hR1;exact h
           obtain⟨lf,hlf⟩:∃lf:Nat,(b.length:Int)-(z.2:Int)=(lf:Int):=⟨b.length-z.2,by omega⟩;have M0:=bx (X0h gr b z.2 false w24 hR1);rw[hlf]at M0;have E0:Bx (lf=0↔z.2=b.length):=bx (by omega);clear hB1 hR1 hsr hle hlf;go_wp2_with fail
           refine M0.out.mono ?_;rintro e w25 ⟨rfl,q,hq⟩;have Rl:Bx (PaX w w25 b gq gs gr gm n23 x9 (stR (.ok z))):=bx (by rw[hq];exact Gw.out.below (below_drewN (Below.refl _ _) q));clear hq M0 c0 c1;by_cases hl:lf=0
           ·have hlI:¬(0:Int)<(lf:Int):=by omega
            have hzl:=E0.out.1 hl
            have HH:=bx (Y1t x9 w25 Rl.out.rim (by
             have:=Y2r (Vr.out.2 z rfl)
             exact this))
            have HZL:=bx hzl;obtain⟨hb9,hhb⟩:∃h,holdsP x9.p=h:=⟨_,rfl⟩;rw[hhb]at HH;have Y2:=bx hhb;have f0:=Rl.out.par.im.im0 rfl;have f1:=Rl.out.par.im.im1 rfl;have f2:=Rl.out.par.im.im2 rfl;have f3:=Rl.out.par.im.im3 rfl;have f4:=Rl.out.par.im.im4 rfl;have f5:=Rl.out.par.im.im5 rfl;have f6:=Rl.out.par.im.im6 rfl;have f7:=Rl.out.par.im.im7 rfl;have f8:=Rl.out.par.im.im8 rfl;have f9:=Rl.out.par.im.im9 rfl;clear hl hzl hhb;go_wp2_with fail
            refine HH.out.mono ?_;rintro e w26 ⟨rfl,hb26⟩;have Ci:=bx (Rl.out.below hb26);clear hb26 HH f0 f1 f2 f3 f4 f5 f6 f7 f8 f9;cases hb9 with
            | true=>
             have HE:Bx (qz=false):=bx (Bool.eq_false_iff.2 fun h=>by
              obtain⟨z',hz,hh⟩:=Cj.out.1 h;injection hz with hz
              subst hz;rcases hh with hh | hh
              ·exact hh HZL.out
              ·rw[Y2.out]at hh;cases hh)
             go_wp2
             go_meet
             case rel=>exact⟨by rw[HE.out];try rfl,Ci⟩
            | false=>
             have HE:Bx (qz=true):=bx (Cj.out.2 ⟨z,rfl,.inr Y2.out⟩);go_wp2
             go_meet
             case rel=>exact⟨by rw[HE.out];try rfl,Ci⟩
           ·have hlI:(0:Int)<(lf:Int):=by omega
            have HE:Bx (qz=true):=bx (Cj.out.2 ⟨z,rfl,.inl (fun e=>hl (E0.out.2 e))⟩);clear hl;go_wp2
            go_meet
            case rel=>exact⟨by rw[HE.out];try rfl,Rl⟩
          -- DEV}
         case rest=>
         obtain⟨rfl,Rl⟩:=hcut;clear Gw
         go_upto_if 138 with(fail)
         go_cut [] from 139 to 140 (fun wx=>Bx (PaX w wx b gq gs gr gm n23 x9 s15))
         case first=>
          -- DEV{
          cases qz with
          | true=>
           have HF:=bx (Y8e gs gr b (stR r14) 24 wc Rl.out.par.src (by decide));have HE:Bx (s15=failR (stR r14) 24):=bx (by rw[←Ds.out,X7i (Cj.out.1 rfl)]);go_wp2_with fail
           refine HF.out.mono ?_;rintro e w27 ⟨⟨q,rfl⟩,hs9,hc9⟩;have Ci:Bx (PaX w w27 b gq gs gr gm n23 x9 s15):=bx (by rw[HE.out];exact Rl.out.next hs9 hc9);clear hs9 hc9;go_wp2
           go_meet
           case rel=>exact Ci
          | false=>
           have HE:Bx (s15=stR r14):=bx (by rw[←Ds.out,Y0t (fun h=>by have:=Cj.out.2 h;cases this)]);have Ci:Bx (PaX w wc b gq gs gr gm n23 x9 s15):=bx (by rw[HE.out];exact Rl.out);go_wp2
           go_meet
           case rel=>exact Ci
          -- DEV}
         case rest=>
         replace hcut:Bx (PaX w wc b gq gs gr gm n23 x9 s15):=hcut
         obtain⟨wd,hwd⟩:∃wd,wd=wc:=⟨_,rfl⟩;rw[←hwd]at hcut ⊢;clear hwd Rl;have D9:Bx (W=s15.bind (fun _ => .ok x9.p)):=bx (by rw[Vr.out.1,Ds.out]);cases s15 with
         | err k9=>
          have Dr:Bx (W = .err k9):=bx D9.out;obtain⟨hB1,hk0⟩:=hcut.out.par.src.err_;have Ps:=bx hk0;have c1:wd.cell? ⟨gs,1,none⟩=some (.int .i64 k9):=(hB1.cell 1).trans rfl;have hkI:(k9 != 0)=true:=by rw[bne_iff_ne];exact hk0
          clear hB1 hk0;have Lu:=bx hcut.out.par.zr;have hS0:wd.drew.cell? ⟨gs,1,none⟩=some (.int .i64 k9):=c1;have hS1:(wd.drew.setRow gq imZ).cell? ⟨gs,1,none⟩=some (.int .i64 k9):=(Y9c (p:=⟨gs,1,none⟩) (heap_setRow wd.drew gq imZ gs (fun e=>hcut.out.par.ne.1 e.symm))).trans c1;go_upto_region 33 with(fail)
          obtain⟨F,hF⟩:∃F,setF wd.drew gq imZ=F:=⟨_,rfl⟩;have hF0:wd.drew=F 0:=by rw[←hF];rfl
          have hF1:(F 0).setRow gq imZ=F 1:=by rw[←hF];rfl
          have hFc:∀n,(F n).cell? ⟨gs,1,none⟩=some (.int .i64 k9):=fun n=>by
           rw[←hF];cases n with
           | zero=>exact hS0
           | succ n=>exact hS1
          have Dq:=bx hF0;have Rm:=bx hF1;have Gz:Bx (Bk (F 0) gq 34 imZ):=bx (by rw[←hF0];exact Lu.out.drewN 1);have L9:Bx (Below w.heap.size w (F 0)):=bx (by rw[←hF0];exact below_drewN hcut.out.par.bel 1);clear hF hF0 hF1 hS0 hS1 c1;refine Y4t 5 F (by kernel_rfl) (by kernel_rfl) (by kernel_rfl) (by kernel_rfl) (by decide) Dq.out (fun _ _ _ d _ h=>by cases d <;> exact h) ?_;simp only[List.take_succ_cons,List.take_zero,List.drop_succ_cons,List.drop_zero]
          repeat (
           refine Y0s (fun K hK=>?_);simp only[SameAt];go_simp;refine hK _ ?_;clear hK K)
          refine X8a ?_;refine Y5x rfl (fun K hK=>?_);refine wp_store_row 34 (.tmp 2) (.tmp 146) rfl gq imZ rfl rfl 34 imZ Gz.out Y9p rfl X3m ?_;rw[Rm.out];refine hK _ _ ⟨1,rfl⟩ ?_;clear hK K;refine Y5x rfl (fun K hK=>?_);go_simp;refine hK _ _ ⟨1,rfl⟩ ?_;clear hK K;refine Y1d ?_;clear hFc;go_wp2;exact bodyPost_ret (v := .tuple #[.agg imZ,.int .i64 k9]) (Y6s _ _ gq imZ rfl (by rw[←Rm.out];exact Gz.out.setRow imZ) rfl) rfl (W9e Dr.out (by rw[←Rm.out];exact bl_setRow L9.out hcut.out.par.lo.1 imZ) Ps.out)
         | ok p9=>
          have Dr:Bx (W = .ok x9.p):=bx D9.out;obtain⟨hB1,_,_⟩:=hcut.out.par.src.ok_;have c1:wd.cell? ⟨gs,1,none⟩=some (.int .i64 0):=(hB1.cell 1).trans rfl;have Lu:=bx hcut.out.par.zr;have f0:=hcut.out.par.im.im0 rfl;have f1:=hcut.out.par.im.im1 rfl;have f2:=hcut.out.par.im.im2 rfl;have f3:=hcut.out.par.im.im3 rfl;have f4:=hcut.out.par.im.im4 rfl;have f5:=hcut.out.par.im.im5 rfl;have f6:=hcut.out.par.im.im6 rfl;have f7:=hcut.out.par.im.im7 rfl;have f8:=hcut.out.par.im.im8 rfl;have f9:=hcut.out.par.im.im9 rfl;clear hB1;go_wp2_with (refine wpList_store_row rfl 34 (.tmp 2) (.tmp 151) rfl gq (imC x9) rfl rfl 34 imZ Lu.out Y9p rfl (W8i x9) ?_)
          exact bodyPost_ret (v := .tuple #[.agg (imC x9),.int .i64 0]) (Y6s _ _ gq (imC x9) rfl (Lu.out.setRow (imC x9)) rfl) rfl (pp_ok Dr.out (bl_setRow hcut.out.par.bel hcut.out.par.lo.1 (imC x9)) (by have hr:=hcut.out.rows.step (w':=wd.setRow gq (imC x9)) (fun k hk=>heap_setRow wd gq (imC x9) k (fun e=>by have:=hcut.out.par.hi.2.2;have:=hk.1;omega)) (fun _ h=>h);exact hr.rim (fun k hk=>by have:=hk.2;have:=hcut.out.le;simpa [World.setRow] using (by omega:k<wd.heap.size))))
        | succ m=>
         -- DEV{
         have hmI:(0:Int)<((m+1:Nat):Int):=(by omega);have m6:wr.cell? ⟨gm,6,none⟩=some (.slice Ai nI ci):=(HP.out.par.im.cell 6).trans rfl;have D8:=bx (HP.out.below (below_drewN (Below.refl wr.heap.size wr) 1));obtain⟨r,hr⟩:∃r,onR s' (rdN 2) b=r:=⟨_,rfl⟩;have HN:=bx (Y9s gs gr 2 b s' wr.drew D8.out.par.src (by decide) (by decide));have hv:=Y7q 2 s' b;rw[hr]at HN hv;obtain⟨y,hy⟩:∃y:Nat,valN r=(y:Int):=⟨(valN r).toNat,by omega⟩;rw[hy]at HN;have Pb:=bx (X2b M8.out hr hy);clear hr hv hy;have hS0:wr.drew.cell? ⟨gm,6,none⟩=some (.slice Ai nI ci):=m6
         have Wm:Bx (((LN.map (fun x:Nat=>(x:Int))).length+[(y:Int)].length)*8≤140737488355328):=bx (by
          have:=U0.out
          simp only[Z17,Z11,Z13];omega)
         obtain⟨nJ,hnJ⟩:∃nJ,(LN++[y]).length=nJ:=⟨_,rfl⟩;have HNJ:=bx hnJ;have Dp:Bx ((LN.map (fun x:Nat=>(x:Int))++[(y:Int)]).length=nJ):=bx (by rw[←hnJ];simp);have hm64:m+1≤64:=by have:=U0.out;omega
         clear hnJ;clear m6;go_upto_region 27 with(fail)
         go_region_law ((first
          | (go_simp;go_at_call 46;refine HN.out.mono ?_;rintro e w2 ⟨rfl,hs2,hc2⟩;have Nh:=bx (D8.out.next hs2 hc2);have hS1:w2.cell? ⟨gm,6,none⟩=some (.slice Ai nI ci):=(Nh.out.par.im.cell 6).trans rfl;have Te:=bx (Nh.out.below (Y9z (Below.refl w2.heap.size w2) (Z00 _) (.cells #[.int .i64 (y:Int)] 3)));have hS2:(w2.alloc (.cells #[.int .i64 (y:Int)] 3)).cell? ⟨gm,6,none⟩=some (.slice Ai nI ci):=(Te.out.par.im.cell 6).trans rfl;have hz2:=Te.out.le;clear hs2 hc2 Nh)
          | (refine Y4x (w2.alloc (.cells #[.int .i64 (y:Int)] 3)) X9z rfl (.tmp 106) (.tmp 109) rfl ifTy (by decide) n17 (.slice Ai nI ci) (LN.map (fun x:Nat=>(x:Int))) rfl Te.out.own (w2.heap.size+1) (some ⟨w2.heap.size,0,none⟩) 1 1 [(y:Int)] rfl rfl (RL.freshe w2 _ rfl _) Wm.out hz2 ?_;intro V7 w7 hO7 hg7 hv7 hb7;obtain⟨A7,c7,e7,-,-⟩:=OwL.rd hO7;replace e7:V7 = .slice A7 nJ c7:=e7.trans (by rw[Dp.out]);subst e7;have Tv:=bx (Te.out.app hO7 hb7);have hi7:=Te.out.par.over hb7 Te.out.gn;have hS3:w7.cell? ⟨gm,6,none⟩=some (.slice Ai nI ci):=(hi7.im.cell 6).trans rfl;have z7:w7.frozen? ⟨gm,6,none⟩=false:=hi7.im.frz 6;clear hO7 hg7 hv7 hb7 hi7)))
         all_goals (
          have So:Bx (PaI w (w7.setCell ⟨gm,6,none⟩ (.slice A7 nJ c7)) b gq gs gr gm n17 x5 (.slice A7 (LN++[y]).length c7) ((LN++[y]).map (fun x:Nat=>(x:Int))) (stR r)):=bx (by rw[Z34,HNJ.out];exact Tv.out)
          have Xy:Bx ((LN++[y]).length+m≤64):=bx (by
           have:=U0.out
           rw[Z09,List.length_singleton];omega)
          have T8:=bx Pb;clear Tv Te Pb hz2 hS1 hS2 hS3 z7 hS0;go_wp2;go_roundw
          case rel=>exact⟨A7,c7,m,LN++[y],stR r,by go_num,Xy,So,T8.out⟩
          case measure=>simp [intOf])
         -- DEV}
      | true=>
       -- DEV{
       have h9:=Pc.out.1 rfl;obtain⟨hl,p,hp⟩:=h9;subst hp;have hl0:L.length+1<k:=by rw[Nd.out];exact hl
       obtain⟨f',m',hf,hm,hLk,hk1⟩:=Y5.out.get hl0;subst hf;subst hm;obtain⟨R,hR⟩:∃R,onR (.ok p) cstP b=R:=⟨_,rfl⟩;have Sa:=bx (X7q gs gr b (.ok p) wr HP.out.par.src Kw.out);rw[hR]at Sa;have HR:=bx hR;have Ng:Bx (poolM gm k wr=k-nV):=bx (Y3p m2);have T7:Bx (nV<k∧k≤1024):=bx ⟨hl,hk1⟩;clear hl hl0 hLk hk1 hR m2 Pc;go_wp2_with fail
       refine Sa.out.mono ?_;rintro e w1 ⟨cn,he,hs1,hc1,hx1⟩
       replace he:e = .returned (.agg #[.int .i64 cn.tag,.int .i64 cn.a,.int .i64 cn.b,.int .i64 cn.num,.string ⟨cn.text.toArray⟩]):=he
       subst he;have Zu:=bx hx1;have Nh:=bx (HP.out.next hs1 hc1);clear hx1 hs1 hc1 Sa HP;obtain⟨gc,hgc⟩:∃g,w1.heap.size=g:=⟨_,rfl⟩;have HGC:=bx hgc;have Zj:=bx (Bk.newAt w1 39 #[.int .i64 cn.tag,.int .i64 cn.a,.int .i64 cn.b,.int .i64 cn.num,.string ⟨cn.text.toArray⟩] hgc);have Te:=bx (Nh.out.below (Y9z (Below.refl _ _) (Z00 _) (.cells #[.int .i64 cn.tag,.int .i64 cn.a,.int .i64 cn.b,.int .i64 cn.num,.string ⟨cn.text.toArray⟩] 39)));have hgg:gm<gc:=by rw[←hgc];exact Nh.out.sz
       have Cr:=bx hgg;have Gy:Bx (∀g,(Value.slice A nV c).ownBlock=some g→g<gc):=bx (fun g hg=>by rw[←hgc];exact(World.ownsRow.lt Nh.out.own g hg).2);clear hgc hgg Nh;go_upto_region 16 with(fail)
       rw[HGC.out];generalize w1.alloc (.cells #[.int .i64 cn.tag,.int .i64 cn.a,.int .i64 cn.b,.int .i64 cn.num,.string ⟨cn.text.toArray⟩] 39)=w2 at Zj Te ⊢;have Zd:=bx (RS.new (fC:=cstC) w2 cn #[.int .i64 cn.tag,.int .i64 cn.a,.int .i64 cn.b,.int .i64 cn.num,.string ⟨cn.text.toArray⟩] rfl 39 (0,0));have hbn:Below w2.heap.size w2 (w2.alloc (.cells #[.int .i64 cn.tag,.int .i64 cn.a,.int .i64 cn.b,.int .i64 cn.num,.string ⟨cn.text.toArray⟩] 39)):=Y9z (Below.refl _ _) (Z00 _) _;have Vl:=bx (Te.out.below hbn);have Zo:=bx (Zj.out.alloc (.cells #[.int .i64 cn.tag,.int .i64 cn.a,.int .i64 cn.b,.int .i64 cn.num,.string ⟨cn.text.toArray⟩] 39));have m2:w2.cell? ⟨gm,2,none⟩=some (.slice A nV c):=(Te.out.par.im.cell 2).trans (by rw[←Sn.out];rfl);have q0:w2.cell? ⟨gc,0,none⟩=some (.int .i64 cn.tag):=(Zj.out.cell 0).trans rfl;have q1:w2.cell? ⟨gc,1,none⟩=some (.int .i64 cn.a):=(Zj.out.cell 1).trans rfl;have q2:w2.cell? ⟨gc,2,none⟩=some (.int .i64 cn.b):=(Zj.out.cell 2).trans rfl;have q3:w2.cell? ⟨gc,3,none⟩=some (.int .i64 cn.num):=(Zj.out.cell 3).trans rfl;have q4:w2.cell? ⟨gc,4,none⟩=some (.string ⟨cn.text.toArray⟩):=(Zj.out.cell 4).trans rfl;have Ts:Bx (((cst0::L).length+[cn].length)*48≤140737488355328):=bx (by have h1:=Nd.out;have h2:=T7.out;simp only[Z11,Z13];omega);obtain⟨n1,hn1⟩:∃n1,nV+1=n1:=⟨_,rfl⟩;have Wu:=bx hn1;have Dp:Bx (((cst0::L)++[cn]).length=n1):=bx (by rw[Z09];show L.length+1+1=n1;rw[Nd.out];exact hn1);have hz6:=Vl.out.sz;clear hn1 hbn;go_upto_region 17 with(at_builtin;refine Y9y _ cstCels rfl (.tmp 69) (.tmp 71) rfl imCstTy (by decide) (gm+1) (.slice A nV c) (cst0::L) rfl Vl.out.own (w2.heap.size+1) (some ⟨w2.heap.size,0,none⟩) 1 1 [cn] rfl rfl Zd.out Ts.out hz6 ?_;intro V7 w7 hO7 hg7 hv7 hb7;obtain⟨A7,c7,e7,-,-⟩:=OwS.rd hO7;replace e7:V7 = .slice A7 n1 c7:=e7.trans (by rw[Dp.out]);subst e7;have Tv:=bx (Vl.out.app hO7 hb7);have Ye:=bx (Zo.out.grown hg7 (fun e=>absurd (Gy.out gc e.symm) (Nat.lt_irrefl _)));have hi7:=Vl.out.par.over hb7 (Z38 _);have m27:w7.cell? ⟨gm,2,none⟩=some (.slice A nV c):=(hi7.im.cell 2).trans (by rw[←Sn.out];rfl);have z27:w7.frozen? ⟨gm,2,none⟩=false:=hi7.im.frz 2;clear hO7 hg7 hv7 hb7 hi7)
       have m2:=Tv.out.par.im.cell 2
       replace m2:(w7.setCell ⟨gm,2,none⟩ (.slice A7 n1 c7)).cell? ⟨gm,2,none⟩=some (.slice A7 n1 c7):=m2.trans (by rw[←Sn.out];rfl)
       have Wr:Bx (Bk (w7.setCell ⟨gm,2,none⟩ (.slice A7 n1 c7)) gc 39 #[.int .i64 cn.tag,.int .i64 cn.a,.int .i64 cn.b,.int .i64 cn.num,.string ⟨cn.text.toArray⟩]):=bx (Ye.out.far (fun e=>by have:=Cr.out;simp only at e;omega) _);clear m27 z27 q0 q1 q2 q3 q4 Ye Zd Vl Zo Te Zj hz6 Ts Dp Gy;generalize w7.setCell ⟨gm,2,none⟩ (.slice A7 n1 c7)=w8 at Tv Wr m2 ⊢;have q0:w8.cell? ⟨gc,0,none⟩=some (.int .i64 cn.tag):=(Wr.out.cell 0).trans rfl;by_cases h5:cn.tag=5
       ·have h5b:(cn.tag==5)=true:=by rw[h5];rfl
        obtain⟨s3,hs3⟩:∃s3,(if n1=k then failR (stR R) 24 else stR R)=s3:=⟨_,rfl⟩;have Xp:=bx hs3;have Pb:=bx (X5k Zi.out HR.out Zu.out h5 Y5.out (by rw[Nd.out];exact Wu.out) hs3);clear h5 hs3
        go_upto_if 81 with(fail)
        go_cut [] from 54 to 89 (fun wx=>Bx (PaP w wx b gq gs gr gm cs1 (.slice A7 n1 c7) (cst0::L++[cn]) s3))
        case first=>
         -- DEV{
         have HF:=bx (Y8e gs gr b (stR R) 24 w8 Tv.out.par.src (by decide));by_cases hk:n1=k
         ·have hkI:((n1:Int)==(k:Int))=true:=by rw[hk];exact beq_self_eq_true _
          have HE:Bx (s3=failR (stR R) 24):=bx (by rw[←Xp.out,if_pos hk]);clear hk;go_wp2_with fail
          refine HF.out.mono ?_;rintro e w9 ⟨⟨q,rfl⟩,hs9,hc9⟩;have Pz:Bx (PaP w w9 b gq gs gr gm cs1 (.slice A7 n1 c7) (cst0::L++[cn]) s3):=bx (by rw[HE.out];exact Tv.out.next hs9 hc9);clear hs9 hc9;go_wp2
          go_meet
          case rel=>exact Pz
         ·have hkI:((n1:Int)==(k:Int))=false:=by rw[beq_eq_false_iff_ne];omega
          have HE:Bx (s3=stR R):=bx (by rw[←Xp.out,if_neg hk]);have Pz:Bx (PaP w w8 b gq gs gr gm cs1 (.slice A7 n1 c7) (cst0::L++[cn]) s3):=bx (by rw[HE.out];exact Tv.out);clear hk;go_wp2
          go_meet
          case rel=>exact Pz
         -- DEV}
        case rest=>
        replace hcut:Bx (PaP w wc b gq gs gr gm cs1 (.slice A7 n1 c7) (cst0::L++[cn]) s3):=hcut
        clear Tv Wr q0 m2 Xp;have Zd:=bx (RS.new (fC:=cstC) wc cst0 #[.int .i64 0,.int .i64 0,.int .i64 0,.int .i64 0,.string ⟨#[]⟩] rfl 39 (0,0));have Vl:=bx (hcut.out.below (Y9z (Below.refl wc.heap.size wc) (Z00 _) (.cells #[.int .i64 0,.int .i64 0,.int .i64 0,.int .i64 0,.string ⟨#[]⟩] 39)));have m2:wc.cell? ⟨gm,2,none⟩=some (.slice A7 n1 c7):=(hcut.out.par.im.cell 2).trans (by rw[←Sn.out];rfl);have hz6:=Vl.out.sz;have Ts:Bx (((cst0::L++[cn]).length+[cst0].length)*48≤140737488355328):=bx (by have h1:=Nd.out;have h2:=T7.out;simp only[Z09,Z11,Z13];omega);obtain⟨n2,hn2⟩:∃n2,n1+1=n2:=⟨_,rfl⟩;have Qy:=bx hn2;have Dp:Bx (((cst0::L++[cn])++[cst0]).length=n2):=bx (by rw[Z09,Z09];show L.length+1+1+1=n2;rw[Nd.out,Wu.out];exact hn2);clear hn2;go_step;go_wp2_with (at_builtin;refine Y9y _ cstCels rfl (.tmp 85) (.tmp 87) rfl imCstTy (by decide) (gm+1) (.slice A7 n1 c7) (cst0::L++[cn]) rfl Vl.out.own (wc.heap.size+1) (some ⟨wc.heap.size,0,none⟩) 1 1 [cst0] rfl rfl Zd.out Ts.out hz6 ?_;intro V9 w9 hO9 hg9 hv9 hb9;obtain⟨A9,c9,e9,-,-⟩:=OwS.rd hO9;replace e9:V9 = .slice A9 n2 c9:=e9.trans (by rw[Dp.out]);subst e9;have So:=bx (Vl.out.app hO9 hb9);have hi9:=Vl.out.par.over hb9 (Z38 _);have m29:w9.cell? ⟨gm,2,none⟩=some (.slice A7 n1 c7):=(hi9.im.cell 2).trans (by rw[←Sn.out];rfl);have z29:w9.frozen? ⟨gm,2,none⟩=false:=hi9.im.frz 2;clear hO9 hg9 hv9 hb9 hi9)
        have Pm:Bx (poolM gm k (w9.setCell ⟨gm,2,none⟩ (.slice A9 n2 c9))=k-n2):=bx (Y3p ((So.out.par.im.cell 2).trans (by rw[←Sn.out];rfl)));clear hcut Zd Vl hz6 Ts;go_roundw
        case rel=>exact⟨A9,c9,L++[cn]++[cst0],s3,f',m'-1,bx (by rw[show (L++[cn]++[cst0]).length+1=n2 from Dp.out];exact So.out),bx Pb.out.1,bx Pb.out.2⟩
        case measure=>rw[Pm.out,Ng.out];have h1:=Qy.out;have h2:=Wu.out;have h3:=T7.out;omega
       ·have h5b:(cn.tag==5)=false:=by rw[beq_eq_false_iff_ne];exact h5
        have Pb:=bx (X1v Zi.out HR.out Zu.out h5);have HKN:=bx (Y5.out.one (c:=cn) (s:=stR R));have Pm:Bx (poolM gm k w8=k-n1):=bx (Y3p m2);clear h5 m2;go_wp2;go_roundw
        case rel=>exact⟨A7,c7,L++[cn],stR R,f',m',bx (by rw[Z09,List.length_singleton,Nd.out,Wu.out];exact Tv.out),bx Pb.out,HKN⟩
        case measure=>rw[Pm.out,Ng.out];have h2:=Wu.out;have h3:=T7.out;omega
       -- DEV}
end Go.Proofs.YtpmfiegfbmamiaaDoor
