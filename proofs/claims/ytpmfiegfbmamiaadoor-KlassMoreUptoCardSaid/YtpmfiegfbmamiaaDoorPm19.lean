/- Contract: klass's maker: frames. -/
import Derived.Test.YtpmfiegfbmamiaaDoorPm14
namespace Go.Proofs.YtpmfiegfbmamiaaDoor
set_option maxRecDepth 100000
set_option maxHeartbeats 16000000
open Go.RowKit
set_option linter.unusedSimpArgs false
theorem W4w {w0 w:World} {gk gm:Nat} {cs:Array Value} {V:Value} {P:List Cst} (h:MkR w0 w gk gm cs V P) :
  BkR w0 (w.alloc (.cells #[] 5)) gk gm cs V P w.heap.size (.slice (some ⟨w.heap.size,0,none⟩) 0 0) []∧Fo w (Mkf gk gm V) (w.alloc (.cells #[] 5)) (BkF gk gm V (.slice (some ⟨w.heap.size,0,none⟩) 0 0)):=by
 have hb:=Y9z (Below.refl w.heap.size w) (Z00 _) (.cells #[] 5);refine⟨⟨h.below hb,OwL.lit0 w (Z00 _),⟨h.bel.size,hb.size⟩,fun k e e2=>?_⟩,Fo.new hb (fun k e=>?_)⟩
 ·have e:some w.heap.size=some k:=e
  injection e with e
  have:=(h.foot k e2).2
  omega
 ·rcases e with e | e
  ·exact .inl e
  ·have e:some w.heap.size=some k:=e
   injection e with e
   exact .inr (by omega)
def MnPost (w0 w:World) (gk gm:Nat) (cs:Array Value) (V:Value) (R:List Cst×List UInt8) (e:Ending) (w':World):Prop:=
 ∃V' v',e = .returned v'∧BkR w0 w' gk gm cs V' R.1 w.heap.size v' R.2∧Fo w (Mkf gk gm V) w' (BkF gk gm V' v')
structure FrOk (w0:World) (x:FrE):Prop where
 fx:FrX w0 (fun k=>k<w0.heap.size) x
 fs:FrS x.p
 ln:∀t∈x.l.l,VtOk t
 sn:∀t∈x.s.l,VtOk t
theorem W7g (P:List Cst) (dl:Int) (ll sl:List Vt):mfrK P ⟨255,dl,ll,sl⟩=((rowK mvtK (rowK mvtK P ll).1 sl).1,(beB 1 255++beB 2 dl)++(beB 2 (ll.length:Int)++(rowK mvtK P ll).2)++(beB 2 (sl.length:Int)++(rowK mvtK (rowK mvtK P ll).1 sl).2)):=by
 unfold mfrK;dsimp only;rw[if_pos rfl,if_pos (show (247:Int)≤255 by decide)]
theorem W5c (P:List Cst) {tg:Int} (dl:Int) (ll sl:List Vt) (h5:¬tg=255) (h:247≤tg):mfrK P ⟨tg,dl,ll,sl⟩=((rowK mvtK (rowK mvtK P ll).1 sl).1,(beB 1 tg++beB 2 dl)++(rowK mvtK P ll).2++(rowK mvtK (rowK mvtK P ll).1 sl).2):=by
 unfold mfrK;dsimp only;rw[if_neg h5,if_pos h]
theorem W5q (P:List Cst) {tg:Int} (dl:Int) (ll sl:List Vt) (h5:¬tg=255) (h:¬247≤tg):mfrK P ⟨tg,dl,ll,sl⟩=((rowK mvtK (rowK mvtK P ll).1 sl).1,beB 1 tg++(rowK mvtK P ll).2++(rowK mvtK (rowK mvtK P ll).1 sl).2):=by
 unfold mfrK;dsimp only;rw[if_neg h5,if_neg h,Z14]
theorem X5a {β:Type} (f:List Cst→Frm→List Cst×List β) {L:List FrE} {j:Nat} {x:FrE} (P:List Cst) (h:L[j]? = some x):rowK f P ((L.take (j+1)).map FrE.p)=((f (rowK f P ((L.take j).map FrE.p)).1 x.p).1,(rowK f P ((L.take j).map FrE.p)).2++(f (rowK f P ((L.take j).map FrE.p)).1 x.p).2):=by
 have:=Y7b f P (l:=L.map FrE.p) (j:=j) (x:=x.p) (by rw[List.getElem?_map,h];rfl)
 rwa [←List.map_take,←List.map_take]at this
theorem Y0f (w0 w:World) (gk gm:Nat) (cs:Array Value) (V:Value) (P:List Cst) (A:Option Addr) (n c:Nat) (L:List FrE) (h:MkR w0 w gk gm cs V P) (hl:L.length=n) (hr:RS frC w0 w0.heap.size A L) (hN:∀x∈L,FrOk w0 x)
  (hP:P.length≤700000000) (hn:n≤256) :
  Calls Tryd.prog 22 #[.pointer (some ⟨gk,0,none⟩),.slice A n c] w (MnPost w0 w gk gm cs V ((rowK mfrK P (L.map FrE.p)).1,beB 2 (n:Int)++(rowK mfrK P (L.map FrE.p)).2)):=by
 have HR:=bx hr;have HL:=bx hl;have HN:=bx hN;have We:=bx hP;obtain⟨h0,f0⟩:=W4w h;have e1:(w.alloc (.cells #[] 5)).heap.size=w.heap.size+1:=(by simp);have Rc:=Y8v w0 _ gk gm cs V P w.heap.size _ [] (beB 2 (n:Int)) 2 1 [(n:Int)] #[.int .i64 (n:Int)] h0 rfl rfl (by decide) (by decide) (by decide) (by simp) (by simp);rw[e1]at Rc;have Rc:=bx Rc;have Dq:=bx f0;clear h h0 f0 e1 hl hr hN hP
 go_enter Tryd.func22,Tryd.ntmps22
 go_upto_region 2 with(refine Rc.out.mono ?_;rintro e w1 ⟨v1,rfl,h1,hc1⟩)
 have H0:Bx (BkR w0 w1 gk gm cs V (rowK mfrK P ((L.take 0).map FrE.p)).1 w.heap.size v1 (beB 2 (n:Int)++(rowK mfrK P ((L.take 0).map FrE.p)).2)):=bx (by simpa [rowK] using h1);have C0:Bx (Fo w (Mkf gk gm V) w1 (BkF gk gm V v1)):=bx (Dq.out.trans hc1);clear h1 hc1 Rc Dq;go_wp2
 go_loopw [5,15] (fun bv iv wx=>∃(j:Nat) (Vj vj:Value),j≤n∧vj=bv∧iv = .int .i64 (j:Int)∧Bx (BkR w0 wx gk gm cs Vj (rowK mfrK P ((L.take j).map FrE.p)).1 w.heap.size vj (beB 2 (n:Int)++(rowK mfrK P ((L.take j).map FrE.p)).2))∧Bx (Fo w (Mkf gk gm V) wx (BkF gk gm Vj vj))) (fun _ iv _=>n-(intOf iv).toNat)
 case atStart=>exact⟨0,V,v1,by omega,rfl,rfl,H0,C0⟩
 case round=>
  clear H0 C0;obtain⟨j,Vj,vj,hj,rfl,rfl,HB,HC⟩:=hrel;by_cases hjn:j<n
  ·have hjI:(j:Int)<(n:Int):=by omega
   obtain⟨ad,f,rfl,hlt,HT,q0,q1⟩:=(HR.out.below HB.out.mkr.bel (Z00 _)).at_ frCels (k:=j) (by rw[HL.out];exact hjn);have Vi:=bx HT.out;have Ri:=HN.out _ (Z16 Vi.out);obtain⟨tg,dl,⟨lA,ln,lc,ll⟩,⟨sA,sn,sc,sl⟩⟩:=f;have p0:=q0 _ rfl;have p1:=q1 0 _ rfl;have p2:=q1 1 _ rfl;have p3:=q1 2 _ rfl;simp only[Z22,Nat.reduceAdd]at p1 p2 p3;unfold Sq.v at p2 p3;dsimp only at p2 p3;clear q0 q1 HT hlt;have Hl:Bx (ll.length=ln∧RS vtC w0 w0.heap.size lA ll∧(∀x∈ll,VtOk x)∧ln≤1000000):=bx ⟨Ri.fx.l.1,Ri.fx.l.rs (fun _ h=>h),Ri.ln,by have:=Ri.fs.1;have e:ll.length=ln:=Ri.fx.l.1;have e2:ll.length≤64:=this;omega⟩;have Hs:Bx (sl.length=sn∧RS vtC w0 w0.heap.size sA sl∧(∀x∈sl,VtOk x)∧sn≤1000000):=bx ⟨Ri.fx.s.1,Ri.fx.s.rs (fun _ h=>h),Ri.sn,by have:=Ri.fs.2;have e:sl.length=sn:=Ri.fx.s.1;have e2:sl.length≤64:=this;omega⟩;have hfs:ll.length≤64∧sl.length≤64:=Ri.fs
   have hlen:=Y3s P ((L.take j).map FrE.p) (fun f hf=>by
    obtain⟨y,hy,rfl⟩:=List.mem_map.1 hf
    exact(HN.out y (List.mem_of_mem_take hy)).fs)
   have hnx:=X5a mfrK P Vi.out;obtain⟨R,hR⟩:∃R,rowK mfrK P ((L.take j).map FrE.p)=R:=⟨_,rfl⟩;rw[hR]at HB hlen hnx;have Zb:=bx hnx;have hv1:=Y3k R.1 ll
   have Xy:Bx (R.1.length≤700100000∧(beB 2 (n:Int)++R.2).length≤150000):=bx (by
    have:=We.out
    rw[Z09,beB_len];rw[Z17,Z29]at hlen;omega)
   have L8:Bx ((rowK mvtK R.1 ll).2.length≤200∧ll.length≤64∧sl.length≤64):=bx (by omega);have Do:Bx ((rowK mvtK R.1 ll).1.length≤700200000):=bx (by have:=Xy.out.1;omega);obtain⟨C,hCs⟩:∃C,wr.heap.size=C:=⟨_,rfl⟩;have Yi:=bx (Bk.newAt wr 77 #[.int .i64 tg,.int .i64 dl,.slice lA ln lc,.slice sA sn sc] hCs);have Yu:=bx (Y9z (Below.refl wr.heap.size wr) (Z00 _) (.cells #[.int .i64 tg,.int .i64 dl,.slice lA ln lc,.slice sA sn sc] 77));have Vc:Bx (¬BkF gk gm Vj vj C):=bx (fun e=>by have:=(HB.out.foot _ e).2;omega);have Ws:=bx hCs;clear hCs hlen hnx hR hv1 hfs Ri;go_upto_region 5 with(fail)
   rw[Ws.out];generalize wr.alloc (.cells #[.int .i64 tg,.int .i64 dl,.slice lA ln lc,.slice sA sn sc] 77)=wb at Yi Yu ⊢;have Zl:=bx (HB.out.below Yu.out);have Zt:=bx (HC.out.below Yu.out);have c0:wb.cell? ⟨C,0,none⟩=some (.int .i64 tg):=(Yi.out.cell 0).trans rfl;obtain⟨oa,hoa⟩:∃oa,(beB 2 (n:Int)++R.2)++[tg].flatMap (beB 1)=oa:=⟨_,rfl⟩;have Rc:=bx (Y8v w0 wb gk gm cs Vj R.1 w.heap.size vj (beB 2 (n:Int)++R.2) oa 1 1 [tg] #[.int .i64 tg] Zl.out rfl rfl (by decide) (by decide) (by decide) (by have:=Xy.out.2;omega) hoa);have hoal:oa.length≤150001:=by rw[←hoa,Z09];have:=Xy.out.2;simp only[Z27,Z37,Z14,beB_len];omega
   have Dz:=bx hoa;have Kx:=bx hoal;clear p0 p1 p2 p3 Ws hoa hoal HB HC;go_upto_region 6 with(refine Rc.out.mono ?_;rintro e w2 ⟨v2,rfl,h2,hc2⟩)
   have Zj:=bx (Yi.out.ch hc2.ch Vc.out);have Qa:Bx (¬BkF gk gm Vj v2 C):=bx (hc2.far Yi.out.lt Vc.out);have Wm:=bx h2;have Yr:=bx (Zt.out.trans hc2);have c0:w2.cell? ⟨C,0,none⟩=some (.int .i64 tg):=(Zj.out.cell 0).trans rfl;clear h2 hc2 Rc Zl Zt
-- GEN
   by_cases h5:tg=255
   ·subst h5
    have c1:w2.cell? ⟨C,1,none⟩=some (.int .i64 dl):=(Zj.out.cell 1).trans rfl;obtain⟨ob,hob⟩:∃ob,oa++[dl].flatMap (beB 2)=ob:=⟨_,rfl⟩;have Vp:=bx (Y8v w0 w2 gk gm cs Vj R.1 w.heap.size v2 oa ob 2 1 [dl] #[.int .i64 dl] Wm.out rfl rfl (by decide) (by decide) (by decide) (by have:=Kx.out;omega) hob);have Gy:=bx hob;have Vu:Bx (ob.length≤200000):=bx (by rw[←hob,Z09];have:=Kx.out;simp only[Z27,Z37,Z14,beB_len];omega);clear hob;go_upto_region 8 with(refine Vp.out.mono ?_;rintro e w3 ⟨v3,rfl,h,hc⟩)
    have Zo:=bx (Zj.out.ch hc.ch Qa.out);have Lt:Bx (¬BkF gk gm Vj v3 C):=bx (hc.far Zj.out.lt Qa.out);have Xv:=bx h;have Yw:=bx (Yr.out.trans hc);have c0:w3.cell? ⟨C,0,none⟩=some (.int .i64 255):=(Zo.out.cell 0).trans rfl;clear h hc Vp Wm Yr c1;go_upto_region 9 with(fail)
    have Ru:Bx (Bk w3.drew C 77 #[.int .i64 255,.int .i64 dl,.slice lA ln lc,.slice sA sn sc]):=bx (Zo.out.drewN 1);have Gv:Bx (BkR w0 w3.drew gk gm cs Vj R.1 w.heap.size v3 ob):=bx (Xv.out.below (below_drewN (Below.refl w3.heap.size w3) 1));have Gu:Bx (Fo w (Mkf gk gm V) w3.drew (BkF gk gm Vj v3)):=bx (Yw.out.below (below_drewN (Below.refl w3.heap.size w3) 1));obtain⟨oc,hoc⟩:∃oc,ob++[(ln:Int)].flatMap (beB 2)=oc:=⟨_,rfl⟩;have T5:=bx hoc
    have L7:Bx (oc.length≤200002∧(oc++(rowK mvtK R.1 ll).2).length≤200302):=bx (by
     have:=Vu.out
     have:=L8.out.1
     have h:oc.length≤200002:=by rw[←hoc,Z09];simp only[Z27,Z37,Z14,beB_len];omega
     rw[Z09];omega)
    clear hoc c0;refine Y9x (S:=fun w'=>w'.cell? ⟨C,2,none⟩=some (.slice lA ln lc)∧w'.cell? ⟨C,3,none⟩=some (.slice sA sn sc)) (.tk 0 (.tk 1 (.tk 2 (.tk 3 (.tk 4 (.tk 7 (.tk 8 (.rn 5 (.rn 6 (.rn 9 (.tk 10 .fin))))))))))) (by kernel_rfl) (by kernel_rfl) (by kernel_rfl) (fun _ _ _ _ h=>h) ⟨(Ru.out.cell 2).trans rfl,(Ru.out.cell 3).trans rfl⟩ ?_;generalize w3.drew=we at Ru Gv Gu ⊢
    iterate 7 (apply SeqW.take;(· rfl);(· (refine Or.inl ⟨?_,?_⟩;(· rfl);(· (intro w hSw;(try dsimp only at hSw);go_simp <;> with_reducible rfl))));simp only[Act.put,Z01,Z02,Z03,Z06,Z04,Z05])
    refine SeqW.run rfl (fun K hK hP=>?_);go_wp2_with fail
    refine hK.out _ _ ⟨((Ru.out.alloc _).cell 2).trans rfl,((Ru.out.alloc _).cell 3).trans rfl⟩ ?_;clear hK hP K;refine SeqW.run rfl (fun K hK hP=>?_);go_wp2_with fail
    refine(Y8v w0 we gk gm cs Vj R.1 w.heap.size v3 ob oc 2 1 [(ln:Int)] #[.int .i64 (ln:Int)] Gv.out rfl rfl (by decide) (by decide) (by decide) (by have:=Vu.out;omega) T5.out).mono ?_
    rintro e w4 ⟨v4,rfl,h,hc⟩;have Zk:=bx (Ru.out.ch hc.ch Lt.out);have Y1:Bx (¬BkF gk gm Vj v4 C):=bx (hc.far Ru.out.lt Lt.out);have Yj:=bx h;have Yg:=bx (Gu.out.trans hc);clear h hc;go_wp2;refine hK.out _ _ ⟨(Zk.out.cell 2).trans rfl,(Zk.out.cell 3).trans rfl⟩ ?_;clear hK hP K;refine SeqW.run rfl (fun K hK hP=>?_);go_wp2_with fail
    refine(Y8a w0 w4 gk gm cs Vj R.1 w.heap.size v4 oc lA ln lc ll Yj.out Hl.out.1 Hl.out.2.1 Hl.out.2.2.1 (by have:=Xy.out.1;omega) (by have:=L7.out.1;omega) Hl.out.2.2.2).mono ?_
    rintro e w5 ⟨V5,v5,rfl,h,hc⟩;have Zm:=bx (Zk.out.ch hc.ch Y1.out);have Y0:Bx (¬BkF gk gm V5 v5 C):=bx (hc.far Zk.out.lt Y1.out);have Za:=bx h;have Xi:=bx (Yg.out.trans hc);clear h hc;go_wp2;refine hK.out _ _ ⟨(Zm.out.cell 2).trans rfl,(Zm.out.cell 3).trans rfl⟩ ?_;clear hK hP K
    iterate 1 (apply SeqW.take;(· rfl);(· (refine Or.inl ⟨?_,?_⟩;(· rfl);(· (intro w hSw;(try dsimp only at hSw);go_simp <;> with_reducible rfl))));simp only[Act.put,Z01,Z02,Z03,Z06,Z04,Z05])
    refine SeqW.done ?_;go_upto_region 10 with(fail)
    have Dn:Bx (Bk w5.drew C 77 #[.int .i64 255,.int .i64 dl,.slice lA ln lc,.slice sA sn sc]):=bx (Zm.out.drewN 1);have D7:Bx (BkR w0 w5.drew gk gm cs V5 (rowK mvtK R.1 ll).1 w.heap.size v5 (oc++(rowK mvtK R.1 ll).2)):=bx (Za.out.below (below_drewN (Below.refl w5.heap.size w5) 1));have D6:Bx (Fo w (Mkf gk gm V) w5.drew (BkF gk gm V5 v5)):=bx (Xi.out.below (below_drewN (Below.refl w5.heap.size w5) 1));obtain⟨od,hod⟩:∃od,(oc++(rowK mvtK R.1 ll).2)++[(sn:Int)].flatMap (beB 2)=od:=⟨_,rfl⟩;have T0:=bx hod
    have HSD:Bx (od.length≤200304):=bx (by
     have:=L7.out.2
     rw[←hod,Z09];simp only[Z27,Z37,Z14,beB_len];omega)
    clear hod;refine Y9x (S:=fun w'=>w'.cell? ⟨C,2,none⟩=some (.slice lA ln lc)∧w'.cell? ⟨C,3,none⟩=some (.slice sA sn sc)) (.tk 0 (.tk 1 (.tk 2 (.tk 3 (.tk 4 (.tk 7 (.tk 8 (.rn 5 (.rn 6 (.rn 9 (.tk 10 .fin))))))))))) (by kernel_rfl) (by kernel_rfl) (by kernel_rfl) (fun _ _ _ _ h=>h) ⟨(Dn.out.cell 2).trans rfl,(Dn.out.cell 3).trans rfl⟩ ?_;generalize w5.drew=wf at Dn D7 D6 ⊢
    iterate 7 (apply SeqW.take;(· rfl);(· (refine Or.inl ⟨?_,?_⟩;(· rfl);(· (intro w hSw;(try dsimp only at hSw);go_simp <;> with_reducible rfl))));simp only[Act.put,Z01,Z02,Z03,Z06,Z04,Z05])
    refine SeqW.run rfl (fun K hK hP=>?_);go_wp2_with fail
    refine hK.out _ _ ⟨((Dn.out.alloc _).cell 2).trans rfl,((Dn.out.alloc _).cell 3).trans rfl⟩ ?_;clear hK hP K;refine SeqW.run rfl (fun K hK hP=>?_);go_wp2_with fail
    refine(Y8v w0 wf gk gm cs V5 (rowK mvtK R.1 ll).1 w.heap.size v5 (oc++(rowK mvtK R.1 ll).2) od 2 1 [(sn:Int)] #[.int .i64 (sn:Int)] D7.out rfl rfl (by decide) (by decide) (by decide) (by have:=L7.out.2;omega) T0.out).mono ?_
    rintro e w6 ⟨v6,rfl,h,hc⟩;have Zf:=bx (Dn.out.ch hc.ch Y0.out);have X9:Bx (¬BkF gk gm V5 v6 C):=bx (hc.far Dn.out.lt Y0.out);have Yl:=bx h;have Wk:=bx (D6.out.trans hc);clear h hc;go_wp2;refine hK.out _ _ ⟨(Zf.out.cell 2).trans rfl,(Zf.out.cell 3).trans rfl⟩ ?_;clear hK hP K;refine SeqW.run rfl (fun K hK hP=>?_);go_wp2_with fail
    refine(Y8a w0 w6 gk gm cs V5 (rowK mvtK R.1 ll).1 w.heap.size v6 od sA sn sc sl Yl.out Hs.out.1 Hs.out.2.1 Hs.out.2.2.1 (by have:=Do.out;omega) (by have:=HSD.out;omega) Hs.out.2.2.2).mono ?_
    rintro e w7 ⟨V7,v7,rfl,h,hc⟩;have Ye:=bx (Zf.out.ch hc.ch X9.out);have HCF7:Bx (¬BkF gk gm V7 v7 C):=bx (hc.far Zf.out.lt X9.out);have Xh:=bx h;have Kz:=bx (Wk.out.trans hc);clear h hc;go_wp2;refine hK.out _ _ ⟨(Ye.out.cell 2).trans rfl,(Ye.out.cell 3).trans rfl⟩ ?_;clear hK hP K
    iterate 1 (apply SeqW.take;(· rfl);(· (refine Or.inl ⟨?_,?_⟩;(· rfl);(· (intro w hSw;(try dsimp only at hSw);go_simp <;> with_reducible rfl))));simp only[Act.put,Z01,Z02,Z03,Z06,Z04,Z05])
    refine SeqW.done ?_;go_wp2;go_roundw
    case rel=>
     refine⟨j+1,V7,v7,by omega,rfl,by go_num,bx ?_,Kz⟩;have e:rowK mfrK P ((L.take (j+1)).map FrE.p)=((rowK mvtK (rowK mvtK R.1 ll).1 sl).1,R.2++((beB 1 255++beB 2 dl)++(beB 2 (ll.length:Int)++(rowK mvtK R.1 ll).2)++(beB 2 (sl.length:Int)++(rowK mvtK (rowK mvtK R.1 ll).1 sl).2))):=by refine Zb.out.trans ?_;show ((mfrK R.1 ⟨255,dl,ll,sl⟩).1,R.2++(mfrK R.1 ⟨255,dl,ll,sl⟩).2)=_;rw[W7g]
     rw[e]
     have e2:beB 2 (n:Int)++(R.2++((beB 1 255++beB 2 dl)++(beB 2 (ll.length:Int)++(rowK mvtK R.1 ll).2)++(beB 2 (sl.length:Int)++(rowK mvtK (rowK mvtK R.1 ll).1 sl).2)))=od++(rowK mvtK (rowK mvtK R.1 ll).1 sl).2:=by
      rw[←T0.out,←T5.out,←Gy.out,←Dz.out,Hl.out.1,Hs.out.1]
      simp
     rw[e2];exact Xh.out
    case measure=>simp [intOf];omega
   ·have h5b:(tg==255)=false:=by simpa using h5
    by_cases h24:247≤tg
    ·have c1:w2.cell? ⟨C,1,none⟩=some (.int .i64 dl):=(Zj.out.cell 1).trans rfl
     obtain⟨ob,hob⟩:∃ob,oa++[dl].flatMap (beB 2)=ob:=⟨_,rfl⟩;have Vp:=bx (Y8v w0 w2 gk gm cs Vj R.1 w.heap.size v2 oa ob 2 1 [dl] #[.int .i64 dl] Wm.out rfl rfl (by decide) (by decide) (by decide) (by have:=Kx.out;omega) hob);have Gy:=bx hob
     have Vu:Bx (ob.length≤200000∧(ob++(rowK mvtK R.1 ll).2).length≤200300):=bx (by
      have h:ob.length≤200000:=by rw[←hob,Z09];have:=Kx.out;simp only[Z27,Z37,Z14,beB_len];omega
      have:=L8.out.1
      rw[Z09];omega)
     have L6:=bx h24;have H5:=bx h5;have h24d:decide (247≤tg)=true:=Z47 h24;clear hob h5;go_upto_region 8 with(refine Vp.out.mono ?_;rintro e w3 ⟨v3,rfl,h,hc⟩)
     have Zo:=bx (Zj.out.ch hc.ch Qa.out);have Lt:Bx (¬BkF gk gm Vj v3 C):=bx (hc.far Zj.out.lt Qa.out);have Xv:=bx h;have Yw:=bx (Yr.out.trans hc);have c0:w3.cell? ⟨C,0,none⟩=some (.int .i64 tg):=(Zo.out.cell 0).trans rfl;clear h hc Vp Wm Yr c1;have hk20:w3.cell? ⟨C,2,none⟩=some (.slice lA ln lc):=(Zo.out.cell 2).trans rfl;go_upto_region 11 with(fail)
     clear hk20;have Ru:Bx (Bk w3.drew C 77 #[.int .i64 tg,.int .i64 dl,.slice lA ln lc,.slice sA sn sc]):=bx (Zo.out.drewN 1);have Gv:Bx (BkR w0 w3.drew gk gm cs Vj R.1 w.heap.size v3 ob):=bx (Xv.out.below (below_drewN (Below.refl w3.heap.size w3) 1));have Gu:Bx (Fo w (Mkf gk gm V) w3.drew (BkF gk gm Vj v3)):=bx (Yw.out.below (below_drewN (Below.refl w3.heap.size w3) 1));refine Y9x (S:=fun w'=>w'.cell? ⟨C,2,none⟩=some (.slice lA ln lc)∧w'.cell? ⟨C,3,none⟩=some (.slice sA sn sc)) (.tk 0 (.tk 1 (.tk 2 (.tk 3 (.tk 4 (.tk 6 (.tk 7 (.rn 5 (.rn 8 (.tk 9 .fin)))))))))) (by kernel_rfl) (by kernel_rfl) (by kernel_rfl) (fun _ _ _ _ h=>h) ⟨(Ru.out.cell 2).trans rfl,(Ru.out.cell 3).trans rfl⟩ ?_;generalize w3.drew=we at Ru Gv Gu ⊢
     iterate 7 (apply SeqW.take;(· rfl);(· (refine Or.inl ⟨?_,?_⟩;(· rfl);(· (intro w hSw;(try dsimp only at hSw);go_simp <;> with_reducible rfl))));simp only[Act.put,Z01,Z02,Z03,Z06,Z04,Z05])
     refine SeqW.run rfl (fun K hK hP=>?_);go_wp2_with fail
     refine(Y8a w0 we gk gm cs Vj R.1 w.heap.size v3 ob lA ln lc ll Gv.out Hl.out.1 Hl.out.2.1 Hl.out.2.2.1 (by have:=Xy.out.1;omega) (by have:=Vu.out.1;omega) Hl.out.2.2.2).mono ?_
     rintro e w61 ⟨V61,v61,rfl,h,hc⟩;have Rt:=bx (Ru.out.ch hc.ch Lt.out);have Qx:Bx (¬BkF gk gm V61 v61 C):=bx (hc.far Ru.out.lt Lt.out);have Dm:=bx h;have Dl:=bx (Gu.out.trans hc);clear h hc;go_wp2;refine hK.out _ _ ⟨(Rt.out.cell 2).trans rfl,(Rt.out.cell 3).trans rfl⟩ ?_;clear hK hP K;refine SeqW.run rfl (fun K hK hP=>?_);go_wp2_with fail
     refine(Y8a w0 w61 gk gm cs V61 (rowK mvtK R.1 ll).1 w.heap.size v61 (ob++(rowK mvtK R.1 ll).2) sA sn sc sl Dm.out Hs.out.1 Hs.out.2.1 Hs.out.2.2.1 (by have:=Do.out;omega) (by have:=Vu.out.2;omega) Hs.out.2.2.2).mono ?_
     rintro e w62 ⟨V62,v62,rfl,h,hc⟩;have Ls:=bx (Rt.out.ch hc.ch Qx.out);have X8:Bx (¬BkF gk gm V62 v62 C):=bx (hc.far Rt.out.lt Qx.out);have Dk:=bx h;have Dj:=bx (Dl.out.trans hc);clear h hc;go_wp2;refine hK.out _ _ ⟨(Ls.out.cell 2).trans rfl,(Ls.out.cell 3).trans rfl⟩ ?_;clear hK hP K
     iterate 1 (apply SeqW.take;(· rfl);(· (refine Or.inl ⟨?_,?_⟩;(· rfl);(· (intro w hSw;(try dsimp only at hSw);go_simp <;> with_reducible rfl))));simp only[Act.put,Z01,Z02,Z03,Z06,Z04,Z05])
     refine SeqW.done ?_;go_wp2;go_roundw
     case rel=>
      refine⟨j+1,V62,v62,by omega,rfl,by go_num,bx ?_,Dj⟩;have e:rowK mfrK P (((L.take (j+1))).map FrE.p)=((rowK mvtK (rowK mvtK R.1 ll).1 sl).1,R.2++((beB 1 tg++beB 2 dl)++(rowK mvtK R.1 ll).2++(rowK mvtK (rowK mvtK R.1 ll).1 sl).2)):=by refine Zb.out.trans ?_;show ((mfrK R.1 ⟨tg,dl,ll,sl⟩).1,R.2++(mfrK R.1 ⟨tg,dl,ll,sl⟩).2)=_;rw[W5c R.1 dl ll sl H5.out L6.out]
      rw[e]
      have e2:beB 2 (n:Int)++(R.2++((beB 1 tg++beB 2 dl)++(rowK mvtK R.1 ll).2++(rowK mvtK (rowK mvtK R.1 ll).1 sl).2))=ob++(rowK mvtK R.1 ll).2++(rowK mvtK (rowK mvtK R.1 ll).1 sl).2:=by
       rw[←Gy.out,←Dz.out]
       simp
      rw[e2];exact Dk.out
     case measure=>simp [intOf];omega
    ·have Vu:Bx (oa.length≤200000∧(oa++(rowK mvtK R.1 ll).2).length≤200300):=bx (by
      have:=Kx.out
      have:=L8.out.1
      rw[Z09];omega)
     have L6:=bx h24;have H5:=bx h5;have h24d:decide (247≤tg)=false:=Z48 h24;have h24e:tg<247:=(by omega);clear h5 h24;have hk20:w2.cell? ⟨C,2,none⟩=some (.slice lA ln lc):=(Zj.out.cell 2).trans rfl;go_upto_region 11 with(fail)
     clear hk20;have Ru:Bx (Bk w2.drew C 77 #[.int .i64 tg,.int .i64 dl,.slice lA ln lc,.slice sA sn sc]):=bx (Zj.out.drewN 1);have Gv:Bx (BkR w0 w2.drew gk gm cs Vj R.1 w.heap.size v2 oa):=bx (Wm.out.below (below_drewN (Below.refl w2.heap.size w2) 1));have Gu:Bx (Fo w (Mkf gk gm V) w2.drew (BkF gk gm Vj v2)):=bx (Yr.out.below (below_drewN (Below.refl w2.heap.size w2) 1));refine Y9x (S:=fun w'=>w'.cell? ⟨C,2,none⟩=some (.slice lA ln lc)∧w'.cell? ⟨C,3,none⟩=some (.slice sA sn sc)) (.tk 0 (.tk 1 (.tk 2 (.tk 3 (.tk 4 (.tk 6 (.tk 7 (.rn 5 (.rn 8 (.tk 9 .fin)))))))))) (by kernel_rfl) (by kernel_rfl) (by kernel_rfl) (fun _ _ _ _ h=>h) ⟨(Ru.out.cell 2).trans rfl,(Ru.out.cell 3).trans rfl⟩ ?_;generalize w2.drew=we at Ru Gv Gu ⊢
     iterate 7 (apply SeqW.take;(· rfl);(· (refine Or.inl ⟨?_,?_⟩;(· rfl);(· (intro w hSw;(try dsimp only at hSw);go_simp <;> with_reducible rfl))));simp only[Act.put,Z01,Z02,Z03,Z06,Z04,Z05])
     refine SeqW.run rfl (fun K hK hP=>?_);go_wp2_with fail
     refine(Y8a w0 we gk gm cs Vj R.1 w.heap.size v2 oa lA ln lc ll Gv.out Hl.out.1 Hl.out.2.1 Hl.out.2.2.1 (by have:=Xy.out.1;omega) (by have:=Vu.out.1;omega) Hl.out.2.2.2).mono ?_
     rintro e w61 ⟨V61,v61,rfl,h,hc⟩;have Rt:=bx (Ru.out.ch hc.ch Qa.out);have Qx:Bx (¬BkF gk gm V61 v61 C):=bx (hc.far Ru.out.lt Qa.out);have Dm:=bx h;have Dl:=bx (Gu.out.trans hc);clear h hc;go_wp2;refine hK.out _ _ ⟨(Rt.out.cell 2).trans rfl,(Rt.out.cell 3).trans rfl⟩ ?_;clear hK hP K;refine SeqW.run rfl (fun K hK hP=>?_);go_wp2_with fail
     refine(Y8a w0 w61 gk gm cs V61 (rowK mvtK R.1 ll).1 w.heap.size v61 (oa++(rowK mvtK R.1 ll).2) sA sn sc sl Dm.out Hs.out.1 Hs.out.2.1 Hs.out.2.2.1 (by have:=Do.out;omega) (by have:=Vu.out.2;omega) Hs.out.2.2.2).mono ?_
     rintro e w62 ⟨V62,v62,rfl,h,hc⟩;have Ls:=bx (Rt.out.ch hc.ch Qx.out);have X8:Bx (¬BkF gk gm V62 v62 C):=bx (hc.far Rt.out.lt Qx.out);have Dk:=bx h;have Dj:=bx (Dl.out.trans hc);clear h hc;go_wp2;refine hK.out _ _ ⟨(Ls.out.cell 2).trans rfl,(Ls.out.cell 3).trans rfl⟩ ?_;clear hK hP K
     iterate 1 (apply SeqW.take;(· rfl);(· (refine Or.inl ⟨?_,?_⟩;(· rfl);(· (intro w hSw;(try dsimp only at hSw);go_simp <;> with_reducible rfl))));simp only[Act.put,Z01,Z02,Z03,Z06,Z04,Z05])
     refine SeqW.done ?_;go_wp2;go_roundw
     case rel=>
      refine⟨j+1,V62,v62,by omega,rfl,by go_num,bx ?_,Dj⟩;have e:rowK mfrK P (((L.take (j+1))).map FrE.p)=((rowK mvtK (rowK mvtK R.1 ll).1 sl).1,R.2++(beB 1 tg++(rowK mvtK R.1 ll).2++(rowK mvtK (rowK mvtK R.1 ll).1 sl).2)):=by refine Zb.out.trans ?_;show ((mfrK R.1 ⟨tg,dl,ll,sl⟩).1,R.2++(mfrK R.1 ⟨tg,dl,ll,sl⟩).2)=_;rw[W5q R.1 dl ll sl H5.out (by have:=L6.out;omega)]
      rw[e]
      have e2:beB 2 (n:Int)++(R.2++(beB 1 tg++(rowK mvtK R.1 ll).2++(rowK mvtK (rowK mvtK R.1 ll).1 sl).2))=oa++(rowK mvtK R.1 ll).2++(rowK mvtK (rowK mvtK R.1 ll).1 sl).2:=by
       rw[←Dz.out]
       simp
      rw[e2];exact Dk.out
     case measure=>simp [intOf];omega
  ·obtain rfl:j=n:=by omega
   have hjI:¬(j:Int)<(j:Int):=(by omega);have hF:Bx (BkR w0 wr gk gm cs Vj (rowK mfrK P (L.map FrE.p)).1 w.heap.size vj (beB 2 (j:Int)++(rowK mfrK P (L.map FrE.p)).2)):=bx (by have:=HB.out;rwa [Z15 (by rw[HL.out];exact Z00 _)]at this);go_wp2;go_ret;exact⟨Vj,vj,rfl,hF.out,HC.out⟩
end Go.Proofs.YtpmfiegfbmamiaaDoor
