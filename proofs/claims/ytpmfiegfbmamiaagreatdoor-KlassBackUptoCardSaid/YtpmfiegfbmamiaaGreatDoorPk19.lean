/- Contract: klass's maker: frames. -/
import Derived.Test.YtpmfiegfbmamiaaGreatDoorPk14
namespace Go.Proofs.YtpmfiegfbmamiaaGreatDoor
set_option maxRecDepth 100000
set_option maxHeartbeats 16000000
open Go.RowKit
set_option linter.unusedSimpArgs false
theorem W4e {w0 w:World} {gk gm:Nat} {cs:Array Value} {V:Value} {P:List Cst} (h:MkR w0 w gk gm cs V P) :
  BkR w0 (w.alloc (.cells #[] 5)) gk gm cs V P w.heap.size (.slice (some ⟨w.heap.size,0,none⟩) 0 0) []∧Fo w (Mkf gk gm V) (w.alloc (.cells #[] 5)) (BkF gk gm V (.slice (some ⟨w.heap.size,0,none⟩) 0 0)):=by
 have hb:=Y9z (Below.refl w.heap.size w) (Z00 _) (.cells #[] 5);refine⟨⟨h.below hb,OwL.lit0 w (Z00 _),⟨h.bel.size,hb.size⟩,fun k e e2=>?_⟩,Fo.new hb (fun k e=>?_)⟩
 ·have e:some w.heap.size=some k:=e
  injection e with e
  have:=(h.foot k e2).2
  omega
 ·rcases e with e | e
  ·exact .inl e
  ·have e:some w.heap.size=some k:=e
   injection e with e
   exact .inr (by omega)
def MnPost (w0 w:World) (gk gm:Nat) (cs:Array Value) (V:Value) (R:List Cst×List UInt8) (e:Ending) (w':World):Prop:=
 ∃V' v',e = .returned v'∧BkR w0 w' gk gm cs V' R.1 w.heap.size v' R.2∧Fo w (Mkf gk gm V) w' (BkF gk gm V' v')
structure FrOk (w0:World) (x:FrE):Prop where
 fx:FrX w0 (fun k=>k<w0.heap.size) x
 fs:FrS x.p
 ln:∀t∈x.l.l,VtOk t
 sn:∀t∈x.s.l,VtOk t
theorem W5n (P:List Cst) (dl:Int) (ll sl:List Vt):mfrK P ⟨255,dl,ll,sl⟩=((rowK mvtK (rowK mvtK P ll).1 sl).1,(beB 1 255++beB 2 dl)++(beB 2 (ll.length:Int)++(rowK mvtK P ll).2)++(beB 2 (sl.length:Int)++(rowK mvtK (rowK mvtK P ll).1 sl).2)):=by
 unfold mfrK;dsimp only;rw[if_pos rfl,if_pos (show (247:Int)≤255 by decide)]
theorem W4z (P:List Cst) {tg:Int} (dl:Int) (ll sl:List Vt) (h5:¬tg=255) (h:247≤tg):mfrK P ⟨tg,dl,ll,sl⟩=((rowK mvtK (rowK mvtK P ll).1 sl).1,(beB 1 tg++beB 2 dl)++(rowK mvtK P ll).2++(rowK mvtK (rowK mvtK P ll).1 sl).2):=by
 unfold mfrK;dsimp only;rw[if_neg h5,if_pos h]
theorem W3r (P:List Cst) {tg:Int} (dl:Int) (ll sl:List Vt) (h5:¬tg=255) (h:¬247≤tg):mfrK P ⟨tg,dl,ll,sl⟩=((rowK mvtK (rowK mvtK P ll).1 sl).1,beB 1 tg++(rowK mvtK P ll).2++(rowK mvtK (rowK mvtK P ll).1 sl).2):=by
 unfold mfrK;dsimp only;rw[if_neg h5,if_neg h,Z14]
theorem X4s {β:Type} (f:List Cst→Frm→List Cst×List β) {L:List FrE} {j:Nat} {x:FrE} (P:List Cst) (h:L[j]? = some x):rowK f P ((L.take (j+1)).map FrE.p)=((f (rowK f P ((L.take j).map FrE.p)).1 x.p).1,(rowK f P ((L.take j).map FrE.p)).2++(f (rowK f P ((L.take j).map FrE.p)).1 x.p).2):=by
 have:=Y6w f P (l:=L.map FrE.p) (j:=j) (x:=x.p) (by rw[List.getElem?_map,h];rfl)
 rwa [←List.map_take,←List.map_take]at this
theorem X9w (w0 w:World) (gk gm:Nat) (cs:Array Value) (V:Value) (P:List Cst) (A:Option Addr) (n c:Nat) (L:List FrE) (h:MkR w0 w gk gm cs V P) (hl:L.length=n) (hr:RS frC w0 w0.heap.size A L) (hN:∀x∈L,FrOk w0 x)
  (hP:P.length≤700000000) (hn:n≤256) :
  Calls Tryz.prog 37 #[.pointer (some ⟨gk,0,none⟩),.slice A n c] w (MnPost w0 w gk gm cs V ((rowK mfrK P (L.map FrE.p)).1,beB 2 (n:Int)++(rowK mfrK P (L.map FrE.p)).2)):=by
 have HR:=bx hr;have HL:=bx hl;have HN:=bx hN;have Tz:=bx hP;obtain⟨h0,f0⟩:=W4e h;have e1:(w.alloc (.cells #[] 5)).heap.size=w.heap.size+1:=(by simp);have Tf:=Y8t w0 _ gk gm cs V P w.heap.size _ [] (beB 2 (n:Int)) 2 1 [(n:Int)] #[.int .i64 (n:Int)] h0 rfl rfl (by decide) (by decide) (by decide) (by simp) (by simp);rw[e1]at Tf;have Tf:=bx Tf;have Dr:=bx f0;clear h h0 f0 e1 hl hr hN hP
 go_enter Tryz.func37,Tryz.ntmps37
 go_upto_region 2 with(refine Tf.out.mono ?_;rintro e w1 ⟨v1,rfl,h1,hc1⟩)
 have H0:Bx (BkR w0 w1 gk gm cs V (rowK mfrK P ((L.take 0).map FrE.p)).1 w.heap.size v1 (beB 2 (n:Int)++(rowK mfrK P ((L.take 0).map FrE.p)).2)):=bx (by simpa [rowK] using h1);have C0:Bx (Fo w (Mkf gk gm V) w1 (BkF gk gm V v1)):=bx (Dr.out.trans hc1);clear h1 hc1 Tf Dr;go_wp2
 go_loopw [5,15] (fun bv iv wx=>∃(j:Nat) (Vj vj:Value),j≤n∧vj=bv∧iv = .int .i64 (j:Int)∧Bx (BkR w0 wx gk gm cs Vj (rowK mfrK P ((L.take j).map FrE.p)).1 w.heap.size vj (beB 2 (n:Int)++(rowK mfrK P ((L.take j).map FrE.p)).2))∧Bx (Fo w (Mkf gk gm V) wx (BkF gk gm Vj vj))) (fun _ iv _=>n-(intOf iv).toNat)
 case atStart=>exact⟨0,V,v1,by omega,rfl,rfl,H0,C0⟩
 case round=>
  clear H0 C0;obtain⟨j,Vj,vj,hj,rfl,rfl,HB,HC⟩:=hrel;by_cases hjn:j<n
  ·have hjI:(j:Int)<(n:Int):=by omega
   obtain⟨ad,f,rfl,hlt,HT,q0,q1⟩:=(HR.out.below HB.out.mkr.bel (Z00 _)).at_ frCels (k:=j) (by rw[HL.out];exact hjn);have Vf:=bx HT.out;have Rg:=HN.out _ (Z15 Vf.out);obtain⟨tg,dl,⟨lA,ln,lc,ll⟩,⟨sA,sn,sc,sl⟩⟩:=f;have p0:=q0 _ rfl;have p1:=q1 0 _ rfl;have p2:=q1 1 _ rfl;have p3:=q1 2 _ rfl;simp only[Z21,Nat.reduceAdd]at p1 p2 p3;unfold Sq.v at p2 p3;dsimp only at p2 p3;clear q0 q1 HT hlt;have Hl:Bx (ll.length=ln∧RS vtC w0 w0.heap.size lA ll∧(∀x∈ll,VtOk x)∧ln≤1000000):=bx ⟨Rg.fx.l.1,Rg.fx.l.rs (fun _ h=>h),Rg.ln,by have:=Rg.fs.1;have e:ll.length=ln:=Rg.fx.l.1;have e2:ll.length≤64:=this;omega⟩;have Hs:Bx (sl.length=sn∧RS vtC w0 w0.heap.size sA sl∧(∀x∈sl,VtOk x)∧sn≤1000000):=bx ⟨Rg.fx.s.1,Rg.fx.s.rs (fun _ h=>h),Rg.sn,by have:=Rg.fs.2;have e:sl.length=sn:=Rg.fx.s.1;have e2:sl.length≤64:=this;omega⟩;have hfs:ll.length≤64∧sl.length≤64:=Rg.fs
   have hlen:=Y3j P ((L.take j).map FrE.p) (fun f hf=>by
    obtain⟨y,hy,rfl⟩:=List.mem_map.1 hf
    exact(HN.out y (List.mem_of_mem_take hy)).fs)
   have hnx:=X4s mfrK P Vf.out;obtain⟨R,hR⟩:∃R,rowK mfrK P ((L.take j).map FrE.p)=R:=⟨_,rfl⟩;rw[hR]at HB hlen hnx;have Wk:=bx hnx;have hv1:=Y2y R.1 ll
   have Yk:Bx (R.1.length≤700100000∧(beB 2 (n:Int)++R.2).length≤150000):=bx (by
    have:=Tz.out
    rw[Z08,beB_len];rw[Z22,Z31]at hlen;omega)
   have I0:Bx ((rowK mvtK R.1 ll).2.length≤200∧ll.length≤64∧sl.length≤64):=bx (by omega);have Dq:Bx ((rowK mvtK R.1 ll).1.length≤700200000):=bx (by have:=Yk.out.1;omega);obtain⟨C,hCs⟩:∃C,wr.heap.size=C:=⟨_,rfl⟩;have Yz:=bx (Bk.newAt wr 58 #[.int .i64 tg,.int .i64 dl,.slice lA ln lc,.slice sA sn sc] hCs);have Za:=bx (Y9z (Below.refl wr.heap.size wr) (Z00 _) (.cells #[.int .i64 tg,.int .i64 dl,.slice lA ln lc,.slice sA sn sc] 58));have Nn:Bx (¬BkF gk gm Vj vj C):=bx (fun e=>by have:=(HB.out.foot _ e).2;omega);have Xk:=bx hCs;clear hCs hlen hnx hR hv1 hfs Rg;go_upto_region 5 with(fail)
   rw[Xk.out];generalize wr.alloc (.cells #[.int .i64 tg,.int .i64 dl,.slice lA ln lc,.slice sA sn sc] 58)=wb at Yz Za ⊢;have Zi:=bx (HB.out.below Za.out);have Zt:=bx (HC.out.below Za.out);have c0:wb.cell? ⟨C,0,none⟩=some (.int .i64 tg):=(Yz.out.cell 0).trans rfl;obtain⟨oa,hoa⟩:∃oa,(beB 2 (n:Int)++R.2)++[tg].flatMap (beB 1)=oa:=⟨_,rfl⟩;have Tf:=bx (Y8t w0 wb gk gm cs Vj R.1 w.heap.size vj (beB 2 (n:Int)++R.2) oa 1 1 [tg] #[.int .i64 tg] Zi.out rfl rfl (by decide) (by decide) (by decide) (by have:=Yk.out.2;omega) hoa);have hoal:oa.length≤150001:=by rw[←hoa,Z08];have:=Yk.out.2;simp only[Z28,Z40,Z14,beB_len];omega
   have Fa:=bx hoa;have Nd:=bx hoal;clear p0 p1 p2 p3 Xk hoa hoal HB HC;go_upto_region 6 with(refine Tf.out.mono ?_;rintro e w2 ⟨v2,rfl,h2,hc2⟩)
   have Zn:=bx (Yz.out.ch hc2.ch Nn.out);have Qa:Bx (¬BkF gk gm Vj v2 C):=bx (hc2.far Yz.out.lt Nn.out);have Wj:=bx h2;have Yu:=bx (Zt.out.trans hc2);have c0:w2.cell? ⟨C,0,none⟩=some (.int .i64 tg):=(Zn.out.cell 0).trans rfl;clear h2 hc2 Tf Zi Zt
-- GEN
   by_cases h5:tg=255
   ·subst h5
    have c1:w2.cell? ⟨C,1,none⟩=some (.int .i64 dl):=(Zn.out.cell 1).trans rfl;obtain⟨ob,hob⟩:∃ob,oa++[dl].flatMap (beB 2)=ob:=⟨_,rfl⟩;have Wq:=bx (Y8t w0 w2 gk gm cs Vj R.1 w.heap.size v2 oa ob 2 1 [dl] #[.int .i64 dl] Wj.out rfl rfl (by decide) (by decide) (by decide) (by have:=Nd.out;omega) hob);have Gz:=bx hob;have We:Bx (ob.length≤200000):=bx (by rw[←hob,Z08];have:=Nd.out;simp only[Z28,Z40,Z14,beB_len];omega);clear hob;go_upto_region 8 with(refine Wq.out.mono ?_;rintro e w3 ⟨v3,rfl,h,hc⟩)
    have Zm:=bx (Zn.out.ch hc.ch Qa.out);have Lq:Bx (¬BkF gk gm Vj v3 C):=bx (hc.far Zn.out.lt Qa.out);have Xy:=bx h;have Yh:=bx (Yu.out.trans hc);have c0:w3.cell? ⟨C,0,none⟩=some (.int .i64 255):=(Zm.out.cell 0).trans rfl;clear h hc Wq Wj Yu c1;go_upto_region 9 with(fail)
    have Rr:Bx (Bk w3.drew C 58 #[.int .i64 255,.int .i64 dl,.slice lA ln lc,.slice sA sn sc]):=bx (Zm.out.drewN 1);have Gw:Bx (BkR w0 w3.drew gk gm cs Vj R.1 w.heap.size v3 ob):=bx (Xy.out.below (below_drewN (Below.refl w3.heap.size w3) 1));have Gv:Bx (Fo w (Mkf gk gm V) w3.drew (BkF gk gm Vj v3)):=bx (Yh.out.below (below_drewN (Below.refl w3.heap.size w3) 1));obtain⟨oc,hoc⟩:∃oc,ob++[(ln:Int)].flatMap (beB 2)=oc:=⟨_,rfl⟩;have Q6:=bx hoc
    have G9:Bx (oc.length≤200002∧(oc++(rowK mvtK R.1 ll).2).length≤200302):=bx (by
     have:=We.out
     have:=I0.out.1
     have h:oc.length≤200002:=by rw[←hoc,Z08];simp only[Z28,Z40,Z14,beB_len];omega
     rw[Z08];omega)
    clear hoc c0;refine Y9y (S:=fun w'=>w'.cell? ⟨C,2,none⟩=some (.slice lA ln lc)∧w'.cell? ⟨C,3,none⟩=some (.slice sA sn sc)) (.tk 0 (.tk 1 (.tk 2 (.tk 3 (.tk 4 (.tk 7 (.tk 8 (.rn 5 (.rn 6 (.rn 9 (.tk 10 .fin))))))))))) (by kernel_rfl) (by kernel_rfl) (by kernel_rfl) (fun _ _ _ _ h=>h) ⟨(Rr.out.cell 2).trans rfl,(Rr.out.cell 3).trans rfl⟩ ?_;generalize w3.drew=we at Rr Gw Gv ⊢
    iterate 7 (apply SeqW.take;(· rfl);(· (refine Or.inl ⟨?_,?_⟩;(· rfl);(· (intro w hSw;(try dsimp only at hSw);go_simp <;> with_reducible rfl))));simp only[Act.put,Z01,Z02,Z03,Z04,Z05,Z06])
    refine SeqW.run rfl (fun K hK hP=>?_);go_wp2_with fail
    refine hK.out _ _ ⟨((Rr.out.alloc _).cell 2).trans rfl,((Rr.out.alloc _).cell 3).trans rfl⟩ ?_;clear hK hP K;refine SeqW.run rfl (fun K hK hP=>?_);go_wp2_with fail
    refine(Y8t w0 we gk gm cs Vj R.1 w.heap.size v3 ob oc 2 1 [(ln:Int)] #[.int .i64 (ln:Int)] Gw.out rfl rfl (by decide) (by decide) (by decide) (by have:=We.out;omega) Q6.out).mono ?_
    rintro e w4 ⟨v4,rfl,h,hc⟩;have Zq:=bx (Rr.out.ch hc.ch Lq.out);have X3:Bx (¬BkF gk gm Vj v4 C):=bx (hc.far Rr.out.lt Lq.out);have Ye:=bx h;have Yl:=bx (Gv.out.trans hc);clear h hc;go_wp2;refine hK.out _ _ ⟨(Zq.out.cell 2).trans rfl,(Zq.out.cell 3).trans rfl⟩ ?_;clear hK hP K;refine SeqW.run rfl (fun K hK hP=>?_);go_wp2_with fail
    refine(Y7y w0 w4 gk gm cs Vj R.1 w.heap.size v4 oc lA ln lc ll Ye.out Hl.out.1 Hl.out.2.1 Hl.out.2.2.1 (by have:=Yk.out.1;omega) (by have:=G9.out.1;omega) Hl.out.2.2.2).mono ?_
    rintro e w5 ⟨V5,v5,rfl,h,hc⟩;have Zj:=bx (Zq.out.ch hc.ch X3.out);have X2:Bx (¬BkF gk gm V5 v5 C):=bx (hc.far Zq.out.lt X3.out);have Yy:=bx h;have Xz:=bx (Yl.out.trans hc);clear h hc;go_wp2;refine hK.out _ _ ⟨(Zj.out.cell 2).trans rfl,(Zj.out.cell 3).trans rfl⟩ ?_;clear hK hP K
    iterate 1 (apply SeqW.take;(· rfl);(· (refine Or.inl ⟨?_,?_⟩;(· rfl);(· (intro w hSw;(try dsimp only at hSw);go_simp <;> with_reducible rfl))));simp only[Act.put,Z01,Z02,Z03,Z04,Z05,Z06])
    refine SeqW.done ?_;go_upto_region 10 with(fail)
    have Dp:Bx (Bk w5.drew C 58 #[.int .i64 255,.int .i64 dl,.slice lA ln lc,.slice sA sn sc]):=bx (Zj.out.drewN 1);have HBf:Bx (BkR w0 w5.drew gk gm cs V5 (rowK mvtK R.1 ll).1 w.heap.size v5 (oc++(rowK mvtK R.1 ll).2)):=bx (Yy.out.below (below_drewN (Below.refl w5.heap.size w5) 1));have HCf:Bx (Fo w (Mkf gk gm V) w5.drew (BkF gk gm V5 v5)):=bx (Xz.out.below (below_drewN (Below.refl w5.heap.size w5) 1));obtain⟨od,hod⟩:∃od,(oc++(rowK mvtK R.1 ll).2)++[(sn:Int)].flatMap (beB 2)=od:=⟨_,rfl⟩;have Q5:=bx hod
    have HSD:Bx (od.length≤200304):=bx (by
     have:=G9.out.2
     rw[←hod,Z08];simp only[Z28,Z40,Z14,beB_len];omega)
    clear hod;refine Y9y (S:=fun w'=>w'.cell? ⟨C,2,none⟩=some (.slice lA ln lc)∧w'.cell? ⟨C,3,none⟩=some (.slice sA sn sc)) (.tk 0 (.tk 1 (.tk 2 (.tk 3 (.tk 4 (.tk 7 (.tk 8 (.rn 5 (.rn 6 (.rn 9 (.tk 10 .fin))))))))))) (by kernel_rfl) (by kernel_rfl) (by kernel_rfl) (fun _ _ _ _ h=>h) ⟨(Dp.out.cell 2).trans rfl,(Dp.out.cell 3).trans rfl⟩ ?_;generalize w5.drew=wf at Dp HBf HCf ⊢
    iterate 7 (apply SeqW.take;(· rfl);(· (refine Or.inl ⟨?_,?_⟩;(· rfl);(· (intro w hSw;(try dsimp only at hSw);go_simp <;> with_reducible rfl))));simp only[Act.put,Z01,Z02,Z03,Z04,Z05,Z06])
    refine SeqW.run rfl (fun K hK hP=>?_);go_wp2_with fail
    refine hK.out _ _ ⟨((Dp.out.alloc _).cell 2).trans rfl,((Dp.out.alloc _).cell 3).trans rfl⟩ ?_;clear hK hP K;refine SeqW.run rfl (fun K hK hP=>?_);go_wp2_with fail
    refine(Y8t w0 wf gk gm cs V5 (rowK mvtK R.1 ll).1 w.heap.size v5 (oc++(rowK mvtK R.1 ll).2) od 2 1 [(sn:Int)] #[.int .i64 (sn:Int)] HBf.out rfl rfl (by decide) (by decide) (by decide) (by have:=G9.out.2;omega) Q5.out).mono ?_
    rintro e w6 ⟨v6,rfl,h,hc⟩;have Zf:=bx (Dp.out.ch hc.ch X2.out);have X1:Bx (¬BkF gk gm V5 v6 C):=bx (hc.far Dp.out.lt X2.out);have Yj:=bx h;have Xt:=bx (HCf.out.trans hc);clear h hc;go_wp2;refine hK.out _ _ ⟨(Zf.out.cell 2).trans rfl,(Zf.out.cell 3).trans rfl⟩ ?_;clear hK hP K;refine SeqW.run rfl (fun K hK hP=>?_);go_wp2_with fail
    refine(Y7y w0 w6 gk gm cs V5 (rowK mvtK R.1 ll).1 w.heap.size v6 od sA sn sc sl Yj.out Hs.out.1 Hs.out.2.1 Hs.out.2.2.1 (by have:=Dq.out;omega) (by have:=HSD.out;omega) Hs.out.2.2.2).mono ?_
    rintro e w7 ⟨V7,v7,rfl,h,hc⟩;have Xw:=bx (Zf.out.ch hc.ch X1.out);have HCF7:Bx (¬BkF gk gm V7 v7 C):=bx (hc.far Zf.out.lt X1.out);have Xn:=bx h;have Vi:=bx (Xt.out.trans hc);clear h hc;go_wp2;refine hK.out _ _ ⟨(Xw.out.cell 2).trans rfl,(Xw.out.cell 3).trans rfl⟩ ?_;clear hK hP K
    iterate 1 (apply SeqW.take;(· rfl);(· (refine Or.inl ⟨?_,?_⟩;(· rfl);(· (intro w hSw;(try dsimp only at hSw);go_simp <;> with_reducible rfl))));simp only[Act.put,Z01,Z02,Z03,Z04,Z05,Z06])
    refine SeqW.done ?_;go_wp2;go_roundw
    case rel=>
     refine⟨j+1,V7,v7,by omega,rfl,by go_num,bx ?_,Vi⟩;have e:rowK mfrK P ((L.take (j+1)).map FrE.p)=((rowK mvtK (rowK mvtK R.1 ll).1 sl).1,R.2++((beB 1 255++beB 2 dl)++(beB 2 (ll.length:Int)++(rowK mvtK R.1 ll).2)++(beB 2 (sl.length:Int)++(rowK mvtK (rowK mvtK R.1 ll).1 sl).2))):=by refine Wk.out.trans ?_;show ((mfrK R.1 ⟨255,dl,ll,sl⟩).1,R.2++(mfrK R.1 ⟨255,dl,ll,sl⟩).2)=_;rw[W5n]
     rw[e]
     have e2:beB 2 (n:Int)++(R.2++((beB 1 255++beB 2 dl)++(beB 2 (ll.length:Int)++(rowK mvtK R.1 ll).2)++(beB 2 (sl.length:Int)++(rowK mvtK (rowK mvtK R.1 ll).1 sl).2)))=od++(rowK mvtK (rowK mvtK R.1 ll).1 sl).2:=by
      rw[←Q5.out,←Q6.out,←Gz.out,←Fa.out,Hl.out.1,Hs.out.1]
      simp
     rw[e2];exact Xn.out
    case measure=>simp [intOf];omega
   ·have h5b:(tg==255)=false:=by simpa using h5
    by_cases h24:247≤tg
    ·have c1:w2.cell? ⟨C,1,none⟩=some (.int .i64 dl):=(Zn.out.cell 1).trans rfl
     obtain⟨ob,hob⟩:∃ob,oa++[dl].flatMap (beB 2)=ob:=⟨_,rfl⟩;have Wq:=bx (Y8t w0 w2 gk gm cs Vj R.1 w.heap.size v2 oa ob 2 1 [dl] #[.int .i64 dl] Wj.out rfl rfl (by decide) (by decide) (by decide) (by have:=Nd.out;omega) hob);have Gz:=bx hob
     have We:Bx (ob.length≤200000∧(ob++(rowK mvtK R.1 ll).2).length≤200300):=bx (by
      have h:ob.length≤200000:=by rw[←hob,Z08];have:=Nd.out;simp only[Z28,Z40,Z14,beB_len];omega
      have:=I0.out.1
      rw[Z08];omega)
     have G8:=bx h24;have H5:=bx h5;have h24d:decide (247≤tg)=true:=Z46 h24;clear hob h5;go_upto_region 8 with(refine Wq.out.mono ?_;rintro e w3 ⟨v3,rfl,h,hc⟩)
     have Zm:=bx (Zn.out.ch hc.ch Qa.out);have Lq:Bx (¬BkF gk gm Vj v3 C):=bx (hc.far Zn.out.lt Qa.out);have Xy:=bx h;have Yh:=bx (Yu.out.trans hc);have c0:w3.cell? ⟨C,0,none⟩=some (.int .i64 tg):=(Zm.out.cell 0).trans rfl;clear h hc Wq Wj Yu c1;have hk20:w3.cell? ⟨C,2,none⟩=some (.slice lA ln lc):=(Zm.out.cell 2).trans rfl;go_upto_region 11 with(fail)
     clear hk20;have Rr:Bx (Bk w3.drew C 58 #[.int .i64 tg,.int .i64 dl,.slice lA ln lc,.slice sA sn sc]):=bx (Zm.out.drewN 1);have Gw:Bx (BkR w0 w3.drew gk gm cs Vj R.1 w.heap.size v3 ob):=bx (Xy.out.below (below_drewN (Below.refl w3.heap.size w3) 1));have Gv:Bx (Fo w (Mkf gk gm V) w3.drew (BkF gk gm Vj v3)):=bx (Yh.out.below (below_drewN (Below.refl w3.heap.size w3) 1));refine Y9y (S:=fun w'=>w'.cell? ⟨C,2,none⟩=some (.slice lA ln lc)∧w'.cell? ⟨C,3,none⟩=some (.slice sA sn sc)) (.tk 0 (.tk 1 (.tk 2 (.tk 3 (.tk 4 (.tk 6 (.tk 7 (.rn 5 (.rn 8 (.tk 9 .fin)))))))))) (by kernel_rfl) (by kernel_rfl) (by kernel_rfl) (fun _ _ _ _ h=>h) ⟨(Rr.out.cell 2).trans rfl,(Rr.out.cell 3).trans rfl⟩ ?_;generalize w3.drew=we at Rr Gw Gv ⊢
     iterate 7 (apply SeqW.take;(· rfl);(· (refine Or.inl ⟨?_,?_⟩;(· rfl);(· (intro w hSw;(try dsimp only at hSw);go_simp <;> with_reducible rfl))));simp only[Act.put,Z01,Z02,Z03,Z04,Z05,Z06])
     refine SeqW.run rfl (fun K hK hP=>?_);go_wp2_with fail
     refine(Y7y w0 we gk gm cs Vj R.1 w.heap.size v3 ob lA ln lc ll Gw.out Hl.out.1 Hl.out.2.1 Hl.out.2.2.1 (by have:=Yk.out.1;omega) (by have:=We.out.1;omega) Hl.out.2.2.2).mono ?_
     rintro e w61 ⟨V61,v61,rfl,h,hc⟩;have Rq:=bx (Rr.out.ch hc.ch Lq.out);have Qw:Bx (¬BkF gk gm V61 v61 C):=bx (hc.far Rr.out.lt Lq.out);have Do:=bx h;have Dn:=bx (Gv.out.trans hc);clear h hc;go_wp2;refine hK.out _ _ ⟨(Rq.out.cell 2).trans rfl,(Rq.out.cell 3).trans rfl⟩ ?_;clear hK hP K;refine SeqW.run rfl (fun K hK hP=>?_);go_wp2_with fail
     refine(Y7y w0 w61 gk gm cs V61 (rowK mvtK R.1 ll).1 w.heap.size v61 (ob++(rowK mvtK R.1 ll).2) sA sn sc sl Do.out Hs.out.1 Hs.out.2.1 Hs.out.2.2.1 (by have:=Dq.out;omega) (by have:=We.out.2;omega) Hs.out.2.2.2).mono ?_
     rintro e w62 ⟨V62,v62,rfl,h,hc⟩;have Lp:=bx (Rq.out.ch hc.ch Qw.out);have X0:Bx (¬BkF gk gm V62 v62 C):=bx (hc.far Rq.out.lt Qw.out);have Dm:=bx h;have Dl:=bx (Dn.out.trans hc);clear h hc;go_wp2;refine hK.out _ _ ⟨(Lp.out.cell 2).trans rfl,(Lp.out.cell 3).trans rfl⟩ ?_;clear hK hP K
     iterate 1 (apply SeqW.take;(· rfl);(· (refine Or.inl ⟨?_,?_⟩;(· rfl);(· (intro w hSw;(try dsimp only at hSw);go_simp <;> with_reducible rfl))));simp only[Act.put,Z01,Z02,Z03,Z04,Z05,Z06])
     refine SeqW.done ?_;go_wp2;go_roundw
     case rel=>
      refine⟨j+1,V62,v62,by omega,rfl,by go_num,bx ?_,Dl⟩;have e:rowK mfrK P (((L.take (j+1))).map FrE.p)=((rowK mvtK (rowK mvtK R.1 ll).1 sl).1,R.2++((beB 1 tg++beB 2 dl)++(rowK mvtK R.1 ll).2++(rowK mvtK (rowK mvtK R.1 ll).1 sl).2)):=by refine Wk.out.trans ?_;show ((mfrK R.1 ⟨tg,dl,ll,sl⟩).1,R.2++(mfrK R.1 ⟨tg,dl,ll,sl⟩).2)=_;rw[W4z R.1 dl ll sl H5.out G8.out]
      rw[e]
      have e2:beB 2 (n:Int)++(R.2++((beB 1 tg++beB 2 dl)++(rowK mvtK R.1 ll).2++(rowK mvtK (rowK mvtK R.1 ll).1 sl).2))=ob++(rowK mvtK R.1 ll).2++(rowK mvtK (rowK mvtK R.1 ll).1 sl).2:=by
       rw[←Gz.out,←Fa.out]
       simp
      rw[e2];exact Dm.out
     case measure=>simp [intOf];omega
    ·have We:Bx (oa.length≤200000∧(oa++(rowK mvtK R.1 ll).2).length≤200300):=bx (by
      have:=Nd.out
      have:=I0.out.1
      rw[Z08];omega)
     have G8:=bx h24;have H5:=bx h5;have h24d:decide (247≤tg)=false:=Z47 h24;have h24e:tg<247:=(by omega);clear h5 h24;have hk20:w2.cell? ⟨C,2,none⟩=some (.slice lA ln lc):=(Zn.out.cell 2).trans rfl;go_upto_region 11 with(fail)
     clear hk20;have Rr:Bx (Bk w2.drew C 58 #[.int .i64 tg,.int .i64 dl,.slice lA ln lc,.slice sA sn sc]):=bx (Zn.out.drewN 1);have Gw:Bx (BkR w0 w2.drew gk gm cs Vj R.1 w.heap.size v2 oa):=bx (Wj.out.below (below_drewN (Below.refl w2.heap.size w2) 1));have Gv:Bx (Fo w (Mkf gk gm V) w2.drew (BkF gk gm Vj v2)):=bx (Yu.out.below (below_drewN (Below.refl w2.heap.size w2) 1));refine Y9y (S:=fun w'=>w'.cell? ⟨C,2,none⟩=some (.slice lA ln lc)∧w'.cell? ⟨C,3,none⟩=some (.slice sA sn sc)) (.tk 0 (.tk 1 (.tk 2 (.tk 3 (.tk 4 (.tk 6 (.tk 7 (.rn 5 (.rn 8 (.tk 9 .fin)))))))))) (by kernel_rfl) (by kernel_rfl) (by kernel_rfl) (fun _ _ _ _ h=>h) ⟨(Rr.out.cell 2).trans rfl,(Rr.out.cell 3).trans rfl⟩ ?_;generalize w2.drew=we at Rr Gw Gv ⊢
     iterate 7 (apply SeqW.take;(· rfl);(· (refine Or.inl ⟨?_,?_⟩;(· rfl);(· (intro w hSw;(try dsimp only at hSw);go_simp <;> with_reducible rfl))));simp only[Act.put,Z01,Z02,Z03,Z04,Z05,Z06])
     refine SeqW.run rfl (fun K hK hP=>?_);go_wp2_with fail
     refine(Y7y w0 we gk gm cs Vj R.1 w.heap.size v2 oa lA ln lc ll Gw.out Hl.out.1 Hl.out.2.1 Hl.out.2.2.1 (by have:=Yk.out.1;omega) (by have:=We.out.1;omega) Hl.out.2.2.2).mono ?_
     rintro e w61 ⟨V61,v61,rfl,h,hc⟩;have Rq:=bx (Rr.out.ch hc.ch Qa.out);have Qw:Bx (¬BkF gk gm V61 v61 C):=bx (hc.far Rr.out.lt Qa.out);have Do:=bx h;have Dn:=bx (Gv.out.trans hc);clear h hc;go_wp2;refine hK.out _ _ ⟨(Rq.out.cell 2).trans rfl,(Rq.out.cell 3).trans rfl⟩ ?_;clear hK hP K;refine SeqW.run rfl (fun K hK hP=>?_);go_wp2_with fail
     refine(Y7y w0 w61 gk gm cs V61 (rowK mvtK R.1 ll).1 w.heap.size v61 (oa++(rowK mvtK R.1 ll).2) sA sn sc sl Do.out Hs.out.1 Hs.out.2.1 Hs.out.2.2.1 (by have:=Dq.out;omega) (by have:=We.out.2;omega) Hs.out.2.2.2).mono ?_
     rintro e w62 ⟨V62,v62,rfl,h,hc⟩;have Lp:=bx (Rq.out.ch hc.ch Qw.out);have X0:Bx (¬BkF gk gm V62 v62 C):=bx (hc.far Rq.out.lt Qw.out);have Dm:=bx h;have Dl:=bx (Dn.out.trans hc);clear h hc;go_wp2;refine hK.out _ _ ⟨(Lp.out.cell 2).trans rfl,(Lp.out.cell 3).trans rfl⟩ ?_;clear hK hP K
     iterate 1 (apply SeqW.take;(· rfl);(· (refine Or.inl ⟨?_,?_⟩;(· rfl);(· (intro w hSw;(try dsimp only at hSw);go_simp <;> with_reducible rfl))));simp only[Act.put,Z01,Z02,Z03,Z04,Z05,Z06])
     refine SeqW.done ?_;go_wp2;go_roundw
     case rel=>
      refine⟨j+1,V62,v62,by omega,rfl,by go_num,bx ?_,Dl⟩;have e:rowK mfrK P (((L.take (j+1))).map FrE.p)=((rowK mvtK (rowK mvtK R.1 ll).1 sl).1,R.2++(beB 1 tg++(rowK mvtK R.1 ll).2++(rowK mvtK (rowK mvtK R.1 ll).1 sl).2)):=by refine Wk.out.trans ?_;show ((mfrK R.1 ⟨tg,dl,ll,sl⟩).1,R.2++(mfrK R.1 ⟨tg,dl,ll,sl⟩).2)=_;rw[W3r R.1 dl ll sl H5.out (by have:=G8.out;omega)]
      rw[e]
      have e2:beB 2 (n:Int)++(R.2++(beB 1 tg++(rowK mvtK R.1 ll).2++(rowK mvtK (rowK mvtK R.1 ll).1 sl).2))=oa++(rowK mvtK R.1 ll).2++(rowK mvtK (rowK mvtK R.1 ll).1 sl).2:=by
       rw[←Fa.out]
       simp
      rw[e2];exact Dm.out
     case measure=>simp [intOf];omega
  ·obtain rfl:j=n:=by omega
   have hjI:¬(j:Int)<(j:Int):=(by omega);have hF:Bx (BkR w0 wr gk gm cs Vj (rowK mfrK P (L.map FrE.p)).1 w.heap.size vj (beB 2 (j:Int)++(rowK mfrK P (L.map FrE.p)).2)):=bx (by have:=HB.out;rwa [Z12 (by rw[HL.out];exact Z00 _)]at this);go_wp2;go_ret;exact⟨Vj,vj,rfl,hF.out,HC.out⟩
end Go.Proofs.YtpmfiegfbmamiaaGreatDoor
