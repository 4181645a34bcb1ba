/- Contract: klass.Make. -/
import Derived.Test.YtpmfiegfbmamiaaDoorPm23
import Derived.Test.YtpmfiegfbmamiaaDoorPm5
namespace Go.Proofs.YtpmfiegfbmamiaaDoor
set_option maxRecDepth 100000
set_option maxHeartbeats 32000000
open Go.RowKit
set_option linter.unusedSimpArgs false
theorem Y5d:imZ.all (·.oneCell')=true:=by kernel_rfl
theorem X5d (x:ImE):(imC x).all (·.oneCell')=true:=by kernel_rfl
theorem mkIntTy:ETy Tryd.prog 30 3 (.int .i64 0) 1 8:=⟨Tryd.underlying30,info_parts (by kernel_rfl),rfl,by decide⟩
theorem Y7s (tmps:Array Value) (w:World) (g:Nat) (cs:Array Value) (h2:tmps.getD 2 undef = .pointer (some ⟨g,0,none⟩)) (hk:Bk w g 34 cs) (hs:cs.size=10) :
  (results Tryd.f5 tmps).run Tryd.prog w = .ok (.tuple #[.agg cs,tmps.getD 3 undef]) w:=by
 rw[results_cell_tmp (p:=2) (u:=3) (ty:=34) Tryd.results5];have h2':tmps[2]?.getD undef = .pointer (some ⟨g,0,none⟩):=(by simpa using h2);have hl:=run_loadVar_row (P:=Tryd.prog) w g 34 34 cs (0,0) _ hk Tryd.underlying34 rfl (by rw[hs];exact Y9p);simp [h2',asAddr,hl,Result.andThen]
theorem W4i {k:Nat} {c:Cst} (h:CtN k c) (hk:k≤2000000):CstB c:=⟨h.1.2.1,h.2.1,h.2.2.1,h.1.1,Z08 h.2.2.2 hk⟩
theorem Y3c:(Tryd.prog.info? 43).map (·.size)=some 4:=by kernel_rfl
theorem Y5s (a b c:Int):(#[Value.int .i64 a,.int .i64 b,.int .i64 c,.slice none 0 0]:Array Value).all (·.oneCell')=true:=by simp [Value.oneCell']
theorem mt_ok {w:World} {m:MtE} (hx:MtX w (fun k=>k<w.heap.size) m) (hN:MtN 2000000 m) (hS:MtS m.p):MtOk w m:=
 ⟨hx,hS,fun h hh=>(hN.hs.2 h hh).2.2.2,fun f hf=>⟨hx.fr f hf,hS.2 f.p (List.mem_map_of_mem hf),fun t ht=>⟨((hN.fs.2 f hf).2.2.1.2 t ht).2.1⟩,fun t ht=>⟨((hN.fs.2 f hf).2.2.2.2 t ht).2.1⟩⟩⟩
theorem own_cap {α:Type} {fC:α→List Value} {sz:Nat} {w:World} {B n c:Nat} {e:TypeId} {A:Option Addr} {v:Value} {l:List α} (h:OwS fC sz w B e v l) (hv:v = .slice A n c):(c:Int)≤9223372036854775807:=by
 rcases h.2 with⟨e1,h0⟩ | ⟨g,cap,cur,e1,_,_,_,hm,_⟩
 ·rw[hv]at e1;injection e1 with _ _ e3;omega
 ·rw[hv]at e1;injection e1 with _ _ e3;unfold maxLen at hm;omega
theorem W5j {w:World} {B:Nat} {A:Option Addr} {l:List (List UInt8)} (h:RS txC w B A l):RL strQ w B A l:=by
 unfold RS at h;unfold RL
 have e:l.flatMap txC=l.map strQ:=by
  clear h
  induction l with
  | nil=>rfl
  | cons a r ih=>rw[Z27,List.map_cons,ih];rfl
 rwa [e]at h
theorem Y5v (x:ClE) (w:World) (hx:ClX w (fun k=>k<w.heap.size) x) (hN:ClN 2000000 x) (hm:0<w.heap.size∧∃m,w.cell? ⟨0,0,none⟩=some (.int .i64 m)) :
  Calls Tryd.prog 5 #[.agg (clA x)] w (MakePost w x.p x.pool.l):=by
 have HX:=bx hx;have HN:=bx hN;have Xc:=bx hm;obtain⟨W,hW⟩:∃W,makeK x.p x.pool.l=W:=⟨_,rfl⟩;unfold MakePost;rw[hW];have HW:=bx hW;obtain⟨g1,hg1⟩:∃g1,w.heap.size=g1:=⟨_,rfl⟩;obtain⟨w1,hw1⟩:∃w1,w.alloc (.cells (clA x) 27)=w1:=⟨_,rfl⟩;obtain⟨wx,hwx⟩:∃wx,w1.alloc (.cells imZ 34)=wx:=⟨_,rfl⟩;obtain⟨g2,hg2⟩:∃g2,w1.heap.size=g2:=⟨_,rfl⟩;have hb1:Below w.heap.size w w1:=by rw[←hw1];exact Y9z (Below.refl _ w) (Z00 _) _
 have hb2:Below w.heap.size w wx:=by rw[←hwx];exact Y9z hb1 (Z00 _) _
 have hk1:Bk w1 g1 27 (clA x):=by rw[←hw1];exact Bk.newAt w _ _ hg1
 have hk1b:Bk wx g1 27 (clA x):=by rw[←hwx];exact hk1.alloc _
 have hk2:Bk wx g2 34 imZ:=by rw[←hwx];exact Bk.newAt w1 _ _ hg2
 have hlt:=hk1.lt;have HE:Bx (MkE w wx g1 g2 x):=bx ⟨hk1b,hk2,⟨by omega,by omega⟩,hb2⟩;have hfit:=X1j x wx ((HX.out).step (fun k hk=>hb2.block k hk) (fun k hk=>Z07 hk hb2.size));obtain⟨q,hq⟩:∃q,fitsK x.p x.pool.l=q:=⟨_,rfl⟩;rw[hq]at hfit;obtain⟨XA,hXA⟩:∃XA,clA x=XA:=⟨_,rfl⟩;rw[hXA]at hfit;have Dh:=bx hfit;have HQ:=bx hq;have D4:=bx hXA;have Dg:Bx (x.p.access=x.access):=bx rfl;clear hx hN hm hW hb1 hb2 hk1 hk1b hk2 hlt hfit hq;rw[hXA]at hw1 ⊢;clear hXA
 go_enter Tryd.func5,Tryd.ntmps5
 go_upto_region 1 with(fail)
 have hwx':w1.alloc (.cells #[.int .i64 0,.int .i64 0,.slice none 0 0,.int .i64 0,.int .i64 0,.int .i64 0,.slice none 0 0,.slice none 0 0,.slice none 0 0,.slice none 0 0] 34)=wx:=hwx;rw[hwx'];clear hw1 hwx hwx' hg1 hg2;have Yz:Bx (Bk wx g1 27 XA):=bx (by rw[←D4.out];exact HE.out.b1);have J4:Bx (XA.size=7):=bx (by rw[←D4.out];rfl);cases q with
 | false=>
  have Wj:Bx (W=none):=bx (by rw[←HW.out];unfold makeK;rw[if_neg (fun h=>by rw[HQ.out]at h;cases h.1)])
  go_wp2_with (first
   | (refine wpList_load_row rfl 27 (.tmp 1) rfl g1 rfl _ XA _ _ Yz.out Tryd.underlying27 rfl (by rw[J4.out];exact Y9h) ?_)
   | (go_at_call 9;refine Dh.out.mono ?_;rintro e wy ⟨rfl,hb⟩;have Gs:=bx (HE.out.below hb);clear hb)
   | (refine wpList_store_row rfl 34 (.tmp 2) (.tmp 23) rfl g2 imZ rfl rfl 34 imZ Gs.out.b2 Y9p rfl Y5d ?_))
  exact bodyPost_ret (v := .tuple #[.agg imZ,.int .i64 24]) (Y7s _ _ g2 imZ rfl (Gs.out.b2.setRow imZ) rfl) rfl ⟨by rw[Wj.out],bl_setRow Gs.out.bel (by have:=Gs.out.lo;omega) _⟩
 | true=>
  go_upto_region 3 with(first
   | (refine wpList_load_row rfl 27 (.tmp 1) rfl g1 rfl _ XA _ _ Yz.out Tryd.underlying27 rfl (by rw[J4.out];exact Y9h) ?_)
   | (go_at_call 9;refine Dh.out.mono ?_;rintro e wy ⟨rfl,hb⟩;have Gs:=bx (HE.out.below hb);clear hb))
  clear Yz J4 Dh HE;have Np:=bx (X2q HQ.out);obtain⟨ac,nm,su,⟨iA,i_n,ic,il⟩,⟨fA,fn,fc,fl⟩,⟨mA,mn,mc,ml⟩,⟨pA,pn,pc,pl⟩⟩:=x;dsimp only at Dg Np HX HN HW HQ Gs ⊢;have We:Bx (pl.length=pn∧RS cstC w w.heap.size pA pl∧(([]:List Cst).length+pl.length)*48≤140737488355328):=bx ⟨HX.out.pool.1,HX.out.pool.rs (fun _ h=>h),by have h:=Np.out.1.1;simp only[Z13,Z22];omega⟩;obtain⟨wx,rfl⟩:∃wx,wx=wy:=⟨_,rfl⟩;have HE:Bx (MkE w wx.drew g1 g2 ⟨ac,nm,su,⟨iA,i_n,ic,il⟩,⟨fA,fn,fc,fl⟩,⟨mA,mn,mc,ml⟩,⟨pA,pn,pc,pl⟩⟩):=bx (Gs.out.below (below_drewN (Below.refl wx.heap.size wx) 1));clear Gs
  go_cut [4] from 24 to 33 (fun kv wx=>∃(gk gm:Nat) (A7:Option Addr) (n7 c7:Nat),kv = .pointer (some ⟨gk,0,none⟩)∧Bx (pl.length=n7)∧Bx (Mk0 w wx g1 g2 ⟨ac,nm,su,⟨iA,i_n,ic,il⟩,⟨fA,fn,fc,fl⟩,⟨mA,mn,mc,ml⟩,⟨pA,pn,pc,pl⟩⟩ gk gm (.slice A7 n7 c7) pl 0 (fun _=>none)))
  case first=>
   -- DEV{
   -- REG3 {
   refine Y9x (S:=fun w'=>w'.cell? ⟨g1,0,none⟩=some (.int .i64 ac)∧w'.cell? ⟨g1,6,none⟩=some (.slice pA pn pc)) (.tk 0 (.tk 1 (.tk 3 (.tk 4 (.alt 2 (.alt 5 (.tk 6 (.rn 7 (.tk 8 (.rn 9 (.tk 10 .fin))))) (.alt 7 (.rn 5 (.tk 6 (.tk 8 (.rn 9 (.tk 10 .fin))))) .non)) (.alt 7 (.rn 2 (.rn 5 (.tk 6 (.tk 8 (.rn 9 (.tk 10 .fin)))))) .non)))))) (by kernel_rfl) (by kernel_rfl) (by kernel_rfl) (fun _ _ _ _ h=>h) ⟨(HE.out.b1.cell 0).trans rfl,(HE.out.b1.cell 6).trans rfl⟩ ?_;generalize wx.drew=y0 at HE ⊢
   iterate 4 (apply SeqW.take;(· rfl);(· (refine Or.inl ⟨?_,?_⟩;(· rfl);(· (intro w hSw;(try dsimp only at hSw);go_simp <;> with_reducible rfl))));simp only[Act.put,Z01,Z02,Z03,Z06,Z04,Z05])
   refine SeqW.both rfl (fun K hK hP=>?_) ?_
   ·go_wp2_with fail
    have hb:=Y9z (Below.refl y0.heap.size y0) (Z00 _) (.cells #[] 39);have HE_:=bx (HE.out.below hb);have Zd:=OwS.lit0 (fC:=cstC) (sz:=5) (B:=w.heap.size) (e:=39) y0 HE.out.bel.size;have hgl:g2<y0.heap.size:=HE.out.lt.2;obtain⟨gz,hg⟩:∃gz,y0.heap.size=gz:=⟨_,rfl⟩;obtain⟨y1,hw⟩:∃y1,y0.alloc (.cells #[] 39)=y1:=⟨_,rfl⟩;rw[hg,hw];rw[hw]at Zd HE_;rw[hg]at Zd hgl;have Xf:Bx (g2<gz):=bx hgl;clear hb hg hw hgl HE;have HE:=HE_;clear HE_;have HR:=bx Zd;clear Zd;refine hK.out _ _ ⟨(HE.out.b1.cell 0).trans rfl,(HE.out.b1.cell 6).trans rfl⟩ ?_;clear hK hP K;refine SeqW.both rfl (fun K hK hP=>?_) ?_
    ·refine Y9y _ cstCels rfl (.tmp 26) (.tmp 28) rfl cstTy (by decide) w.heap.size (.slice (some ⟨gz,0,none⟩) 0 0) [] rfl HR.out w.heap.size pA pn pc pl rfl We.out.1 (We.out.2.1.below HE.out.bel (Z00 _)) We.out.2.2 HE.out.bel.size ?_
     intro V7 y2 hO hg hv _;refine wpList_nil ?_;have hch:Ch y1 y2 (fun k=>k=gz):=Ch.of_grown hg (fun k e=>by injection e with e;exact e.symm);have HE_:=bx (HE.out.fo hch ⟨fun e=>by have:=Xf.out;have:=HE.out.lo;omega,fun e=>by have:=Xf.out;omega⟩ (fun k e=>by have:=Xf.out;have:=HE.out.lo;omega));have hO2:=hO;rw[Z28]at hO2;obtain⟨A7,c7,e7,_,_⟩:=hO2.rd;obtain⟨n7,hn7⟩:∃n7,pl.length=n7:=⟨_,rfl⟩;rw[hn7]at e7;subst e7;have Ql:=bx hn7
     have X4:Bx (∀k,Fow (Value.slice A7 n7 c7) k→g2<k):=bx (fun k e=>by
      rcases Y9m hv e with h | h
      ·have h:some gz=some k:=h
       injection h with h
       have:=Xf.out
       omega
      ·have:=HE.out.lt.2
       omega)
     have HR_:=bx hO2;clear HR hO hO2 hg hv hch hn7 HE;have HE:=HE_;have HR:=HR_;clear HR_ HE_;refine hK.out _ _ ⟨(HE.out.b1.cell 0).trans rfl,(HE.out.b1.cell 6).trans rfl⟩ ?_;clear hK hP K
     iterate 1 (apply SeqW.take;(· rfl);(· (refine Or.inl ⟨?_,?_⟩;(· rfl);(· (intro w hSw;(try dsimp only at hSw);go_simp <;> with_reducible rfl))));simp only[Act.put,Z01,Z02,Z03,Z06,Z04,Z05])
     refine SeqW.run rfl (fun K hK hP=>?_);have hmm:=@run_makeMap Tryd.prog;go_wp2_with fail
     clear hmm;have hb:=Y9z (Below.refl y2.heap.size y2) (Z00 _) (.map #[] 0);have HE_:=bx (HE.out.below hb);have HR_:=bx (HR.out.step hb);have Zd:=MapT.made (f:=kcV) y2 Tryd.prog 39;have hgl:g2<y2.heap.size:=HE.out.lt.2;have hol:∀q,Fow (Value.slice A7 n7 c7) q→q<y2.heap.size:=fun q e=>(HR.out.blk e).2;obtain⟨gm,hg⟩:∃gm,y2.heap.size=gm:=⟨_,rfl⟩;obtain⟨y3,hw⟩:∃y3,y2.alloc (.map #[] 0)=y3:=⟨_,rfl⟩;rw[hg,hw];rw[hw]at Zd HE_ HR_;rw[hg]at Zd hgl hol;have Ph:Bx (g2<gm):=bx hgl;have Xo:Bx ((Value.slice A7 n7 c7).ownBlock≠some gm):=bx (fun e=>Nat.lt_irrefl _ (hol gm e));clear hb hg hw hgl hol HE HR;have HE:=HE_;have HR:=HR_;clear HE_ HR_;have HM:=bx Zd;clear Zd;refine hK.out _ _ ⟨(HE.out.b1.cell 0).trans rfl,(HE.out.b1.cell 6).trans rfl⟩ ?_;clear hK hP K
     iterate 1 (apply SeqW.take;(· rfl);(· (refine Or.inl ⟨?_,?_⟩;(· rfl);(· (intro w hSw;(try dsimp only at hSw);go_simp <;> with_reducible rfl))));simp only[Act.put,Z01,Z02,Z03,Z06,Z04,Z05])
     refine SeqW.run rfl (fun K hK hP=>?_);go_wp2_with fail
     have hb:=Y9z (Below.refl y3.heap.size y3) (Z00 _) (.cells #[.int .i64 0,.int .i64 52,.slice A7 n7 c7,.int .i64 ac,.int .i64 0,.int .i64 0,.slice none 0 0,.slice none 0 0,.slice none 0 0,.slice none 0 0,.map (some gm)] 57);have HE_:=bx (HE.out.below hb);have HR_:=bx (HR.out.step hb);have HM_:=bx (HM.out.below hb HM.out.lt);have Zd:=Bk.new y3 57 #[.int .i64 0,.int .i64 52,.slice A7 n7 c7,.int .i64 ac,.int .i64 0,.int .i64 0,.slice none 0 0,.slice none 0 0,.slice none 0 0,.slice none 0 0,.map (some gm)];have hgl:g2<y3.heap.size:=HE.out.lt.2;have hol:∀q,Fow (Value.slice A7 n7 c7) q→q<y3.heap.size:=fun q e=>(HR.out.blk e).2;have hml:gm<y3.heap.size:=HM.out.lt;obtain⟨gk,hg⟩:∃gk,y3.heap.size=gk:=⟨_,rfl⟩;obtain⟨y4,hw⟩:∃y4,y3.alloc (.cells #[.int .i64 0,.int .i64 52,.slice A7 n7 c7,.int .i64 ac,.int .i64 0,.int .i64 0,.slice none 0 0,.slice none 0 0,.slice none 0 0,.slice none 0 0,.map (some gm)] 57)=y4:=⟨_,rfl⟩;rw[hg,hw];rw[hw]at Zd HE_ HR_ HM_;rw[hg]at Zd hgl hol hml;have Rs:Bx (g2<gk∧gk≠gm∧(Value.slice A7 n7 c7).ownBlock≠some gk):=bx ⟨hgl,fun e=>by omega,fun e=>Nat.lt_irrefl _ (hol gk e)⟩;clear hb hg hw hgl hol hml HE HR HM;have HE:=HE_;have HR:=HR_;have HM:=HM_;clear HE_ HR_ HM_;have HK:=bx Zd;clear Zd;refine hK.out _ _ ⟨(HE.out.b1.cell 0).trans rfl,(HE.out.b1.cell 6).trans rfl⟩ ?_;clear hK hP K
     iterate 1 (apply SeqW.take;(· rfl);(· (refine Or.inl ⟨?_,?_⟩;(· rfl);(· (intro w hSw;(try dsimp only at hSw);go_simp <;> with_reducible rfl))));simp only[Act.put,Z01,Z02,Z03,Z06,Z04,Z05])
     refine SeqW.done ?_
     (try simp only[Act.put,Z01,Z02,Z03])
     go_wp2
     go_meet
     exact⟨gk,gm,A7,n7,c7,rfl,bx (by rw[Ql.out]),bx ⟨HE.out,HK.out,HR.out,HM.out,⟨Rs.out.2.1,Rs.out.2.2,Xo.out⟩,fun k e=>by rcases e with e | e | e;(rw[e];exact Rs.out.1);(rw[e];exact Ph.out);(exact X4.out k e)⟩⟩
    ·refine SeqW.run rfl (fun K hK hP=>?_)
     have hmm:=@run_makeMap Tryd.prog;go_wp2_with fail
     clear hmm;have hb:=Y9z (Below.refl y1.heap.size y1) (Z00 _) (.map #[] 0);have HE_:=bx (HE.out.below hb);have HR_:=bx (HR.out.step hb);have Zd:=MapT.made (f:=kcV) y1 Tryd.prog 39;have hgl:g2<y1.heap.size:=HE.out.lt.2;have hol:∀q,Fow (Value.slice (some ⟨gz,0,none⟩) 0 0) q→q<y1.heap.size:=fun q e=>(HR.out.blk e).2;obtain⟨gm,hg⟩:∃gm,y1.heap.size=gm:=⟨_,rfl⟩;obtain⟨y5,hw⟩:∃y5,y1.alloc (.map #[] 0)=y5:=⟨_,rfl⟩;rw[hg,hw];rw[hw]at Zd HE_ HR_;rw[hg]at Zd hgl hol;have Ph:Bx (g2<gm):=bx hgl;have Nm:Bx (gz<gm):=bx (hol gz rfl);clear hb hg hw hgl hol HE HR;have HE:=HE_;have HR:=HR_;clear HE_ HR_;have HM:=bx Zd;clear Zd;refine hK.out _ _ ⟨(HE.out.b1.cell 0).trans rfl,(HE.out.b1.cell 6).trans rfl⟩ ?_;clear hK hP K;have X3:Bx (¬gz=gm):=bx (fun e=>by have:=Nm.out;omega);refine SeqW.run rfl (fun K hK hP=>?_);refine Y9y _ cstCels rfl (.tmp 26) (.tmp 28) rfl cstTy (by decide) w.heap.size (.slice (some ⟨gz,0,none⟩) 0 0) [] rfl HR.out w.heap.size pA pn pc pl rfl We.out.1 (We.out.2.1.below HE.out.bel (Z00 _)) We.out.2.2 HE.out.bel.size ?_;intro V7 y6 hO hg hv _;refine wpList_nil ?_;have hch:Ch y5 y6 (fun k=>k=gz):=Ch.of_grown hg (fun k e=>by injection e with e;exact e.symm);have HE_:=bx (HE.out.fo hch ⟨fun e=>by have:=Xf.out;have:=HE.out.lo;omega,fun e=>by have:=Xf.out;omega⟩ (fun k e=>by have:=Xf.out;have:=HE.out.lo;omega));have HM_:=bx (HM.out.sameB (hch.same gm HM.out.lt (fun e=>X3.out e.symm)));have hO2:=hO;rw[Z28]at hO2;obtain⟨A7,c7,e7,_,_⟩:=hO2.rd;obtain⟨n7,hn7⟩:∃n7,pl.length=n7:=⟨_,rfl⟩;rw[hn7]at e7;subst e7;have Ql:=bx hn7
     have X4:Bx (∀k,Fow (Value.slice A7 n7 c7) k→g2<k):=bx (fun k e=>by
      rcases Y9m hv e with h | h
      ·have h:some gz=some k:=h
       injection h with h
       have:=Xf.out
       omega
      ·have:=HE.out.lt.2
       omega)
     have Xo:Bx ((Value.slice A7 n7 c7).ownBlock≠some gm):=bx (fun e=>by
      rcases Y9m hv e with h | h
      ·have h:some gz=some gm:=h
       injection h with h
       exact X3.out h
      ·have:=HM.out.lt
       omega)
     have HR_:=bx hO2;clear HR hO hO2 hg hv hch hn7 HE HM;have HE:=HE_;have HM:=HM_;have HR:=HR_;clear HR_ HE_ HM_;refine hK.out _ _ ⟨(HE.out.b1.cell 0).trans rfl,(HE.out.b1.cell 6).trans rfl⟩ ?_;clear hK hP K
     iterate 2 (apply SeqW.take;(· rfl);(· (refine Or.inl ⟨?_,?_⟩;(· rfl);(· (intro w hSw;(try dsimp only at hSw);go_simp <;> with_reducible rfl))));simp only[Act.put,Z01,Z02,Z03,Z06,Z04,Z05])
     refine SeqW.run rfl (fun K hK hP=>?_);go_wp2_with fail
     have hb:=Y9z (Below.refl y6.heap.size y6) (Z00 _) (.cells #[.int .i64 0,.int .i64 52,.slice A7 n7 c7,.int .i64 ac,.int .i64 0,.int .i64 0,.slice none 0 0,.slice none 0 0,.slice none 0 0,.slice none 0 0,.map (some gm)] 57);have HE_:=bx (HE.out.below hb);have HR_:=bx (HR.out.step hb);have HM_:=bx (HM.out.below hb HM.out.lt);have Zd:=Bk.new y6 57 #[.int .i64 0,.int .i64 52,.slice A7 n7 c7,.int .i64 ac,.int .i64 0,.int .i64 0,.slice none 0 0,.slice none 0 0,.slice none 0 0,.slice none 0 0,.map (some gm)];have hgl:g2<y6.heap.size:=HE.out.lt.2;have hol:∀q,Fow (Value.slice A7 n7 c7) q→q<y6.heap.size:=fun q e=>(HR.out.blk e).2;have hml:gm<y6.heap.size:=HM.out.lt;obtain⟨gk,hg⟩:∃gk,y6.heap.size=gk:=⟨_,rfl⟩;obtain⟨y7,hw⟩:∃y7,y6.alloc (.cells #[.int .i64 0,.int .i64 52,.slice A7 n7 c7,.int .i64 ac,.int .i64 0,.int .i64 0,.slice none 0 0,.slice none 0 0,.slice none 0 0,.slice none 0 0,.map (some gm)] 57)=y7:=⟨_,rfl⟩;rw[hg,hw];rw[hw]at Zd HE_ HR_ HM_;rw[hg]at Zd hgl hol hml;have Rs:Bx (g2<gk∧gk≠gm∧(Value.slice A7 n7 c7).ownBlock≠some gk):=bx ⟨hgl,fun e=>by omega,fun e=>Nat.lt_irrefl _ (hol gk e)⟩;clear hb hg hw hgl hol hml HE HR HM;have HE:=HE_;have HR:=HR_;have HM:=HM_;clear HE_ HR_ HM_;have HK:=bx Zd;clear Zd;refine hK.out _ _ ⟨(HE.out.b1.cell 0).trans rfl,(HE.out.b1.cell 6).trans rfl⟩ ?_;clear hK hP K
     iterate 1 (apply SeqW.take;(· rfl);(· (refine Or.inl ⟨?_,?_⟩;(· rfl);(· (intro w hSw;(try dsimp only at hSw);go_simp <;> with_reducible rfl))));simp only[Act.put,Z01,Z02,Z03,Z06,Z04,Z05])
     refine SeqW.done ?_
     (try simp only[Act.put,Z01,Z02,Z03])
     go_wp2
     go_meet
     exact⟨gk,gm,A7,n7,c7,rfl,bx (by rw[Ql.out]),bx ⟨HE.out,HK.out,HR.out,HM.out,⟨Rs.out.2.1,Rs.out.2.2,Xo.out⟩,fun k e=>by rcases e with e | e | e;(rw[e];exact Rs.out.1);(rw[e];exact Ph.out);(exact X4.out k e)⟩⟩
   ·refine SeqW.run rfl (fun K hK hP=>?_)
    have hmm:=@run_makeMap Tryd.prog;go_wp2_with fail
    clear hmm;have hb:=Y9z (Below.refl y0.heap.size y0) (Z00 _) (.map #[] 0);have HE_:=bx (HE.out.below hb);have Zd:=MapT.made (f:=kcV) y0 Tryd.prog 39;have hgl:g2<y0.heap.size:=HE.out.lt.2;obtain⟨gm,hg⟩:∃gm,y0.heap.size=gm:=⟨_,rfl⟩;obtain⟨y8,hw⟩:∃y8,y0.alloc (.map #[] 0)=y8:=⟨_,rfl⟩;rw[hg,hw];rw[hw]at Zd HE_;rw[hg]at Zd hgl;have Ph:Bx (g2<gm):=bx hgl;clear hb hg hw hgl HE;have HE:=HE_;clear HE_;have HM:=bx Zd;clear Zd;refine hK.out _ _ ⟨(HE.out.b1.cell 0).trans rfl,(HE.out.b1.cell 6).trans rfl⟩ ?_;clear hK hP K;refine SeqW.run rfl (fun K hK hP=>?_);go_wp2_with fail
    have hb:=Y9z (Below.refl y8.heap.size y8) (Z00 _) (.cells #[] 39);have HE_:=bx (HE.out.below hb);have HM_:=bx (HM.out.below hb HM.out.lt);have Zd:=OwS.lit0 (fC:=cstC) (sz:=5) (B:=w.heap.size) (e:=39) y8 HE.out.bel.size;have hgl:g2<y8.heap.size:=HE.out.lt.2;have hml:gm<y8.heap.size:=HM.out.lt;obtain⟨gz,hg⟩:∃gz,y8.heap.size=gz:=⟨_,rfl⟩;obtain⟨y9,hw⟩:∃y9,y8.alloc (.cells #[] 39)=y9:=⟨_,rfl⟩;rw[hg,hw];rw[hw]at Zd HE_ HM_;rw[hg]at Zd hgl hml;have Xf:Bx (g2<gz):=bx hgl;have X3:Bx (¬gz=gm):=bx (fun e=>by omega);clear hb hg hw hgl hml HE HM;have HE:=HE_;have HM:=HM_;clear HE_ HM_;have HR:=bx Zd;clear Zd;refine hK.out _ _ ⟨(HE.out.b1.cell 0).trans rfl,(HE.out.b1.cell 6).trans rfl⟩ ?_;clear hK hP K;refine SeqW.run rfl (fun K hK hP=>?_);refine Y9y _ cstCels rfl (.tmp 26) (.tmp 28) rfl cstTy (by decide) w.heap.size (.slice (some ⟨gz,0,none⟩) 0 0) [] rfl HR.out w.heap.size pA pn pc pl rfl We.out.1 (We.out.2.1.below HE.out.bel (Z00 _)) We.out.2.2 HE.out.bel.size ?_;intro V7 y10 hO hg hv _;refine wpList_nil ?_;have hch:Ch y9 y10 (fun k=>k=gz):=Ch.of_grown hg (fun k e=>by injection e with e;exact e.symm);have HE_:=bx (HE.out.fo hch ⟨fun e=>by have:=Xf.out;have:=HE.out.lo;omega,fun e=>by have:=Xf.out;omega⟩ (fun k e=>by have:=Xf.out;have:=HE.out.lo;omega));have HM_:=bx (HM.out.sameB (hch.same gm HM.out.lt (fun e=>X3.out e.symm)));have hO2:=hO;rw[Z28]at hO2;obtain⟨A7,c7,e7,_,_⟩:=hO2.rd;obtain⟨n7,hn7⟩:∃n7,pl.length=n7:=⟨_,rfl⟩;rw[hn7]at e7;subst e7;have Ql:=bx hn7
    have X4:Bx (∀k,Fow (Value.slice A7 n7 c7) k→g2<k):=bx (fun k e=>by
     rcases Y9m hv e with h | h
     ·have h:some gz=some k:=h
      injection h with h
      have:=Xf.out
      omega
     ·have:=HE.out.lt.2
      omega)
    have Xo:Bx ((Value.slice A7 n7 c7).ownBlock≠some gm):=bx (fun e=>by
     rcases Y9m hv e with h | h
     ·have h:some gz=some gm:=h
      injection h with h
      exact X3.out h
     ·have:=HM.out.lt
      omega)
    have HR_:=bx hO2;clear HR hO hO2 hg hv hch hn7 HE HM;have HE:=HE_;have HM:=HM_;have HR:=HR_;clear HR_ HE_ HM_;refine hK.out _ _ ⟨(HE.out.b1.cell 0).trans rfl,(HE.out.b1.cell 6).trans rfl⟩ ?_;clear hK hP K
    iterate 2 (apply SeqW.take;(· rfl);(· (refine Or.inl ⟨?_,?_⟩;(· rfl);(· (intro w hSw;(try dsimp only at hSw);go_simp <;> with_reducible rfl))));simp only[Act.put,Z01,Z02,Z03,Z06,Z04,Z05])
    refine SeqW.run rfl (fun K hK hP=>?_);go_wp2_with fail
    have hb:=Y9z (Below.refl y10.heap.size y10) (Z00 _) (.cells #[.int .i64 0,.int .i64 52,.slice A7 n7 c7,.int .i64 ac,.int .i64 0,.int .i64 0,.slice none 0 0,.slice none 0 0,.slice none 0 0,.slice none 0 0,.map (some gm)] 57);have HE_:=bx (HE.out.below hb);have HR_:=bx (HR.out.step hb);have HM_:=bx (HM.out.below hb HM.out.lt);have Zd:=Bk.new y10 57 #[.int .i64 0,.int .i64 52,.slice A7 n7 c7,.int .i64 ac,.int .i64 0,.int .i64 0,.slice none 0 0,.slice none 0 0,.slice none 0 0,.slice none 0 0,.map (some gm)];have hgl:g2<y10.heap.size:=HE.out.lt.2;have hol:∀q,Fow (Value.slice A7 n7 c7) q→q<y10.heap.size:=fun q e=>(HR.out.blk e).2;have hml:gm<y10.heap.size:=HM.out.lt;obtain⟨gk,hg⟩:∃gk,y10.heap.size=gk:=⟨_,rfl⟩;obtain⟨y11,hw⟩:∃y11,y10.alloc (.cells #[.int .i64 0,.int .i64 52,.slice A7 n7 c7,.int .i64 ac,.int .i64 0,.int .i64 0,.slice none 0 0,.slice none 0 0,.slice none 0 0,.slice none 0 0,.map (some gm)] 57)=y11:=⟨_,rfl⟩;rw[hg,hw];rw[hw]at Zd HE_ HR_ HM_;rw[hg]at Zd hgl hol hml;have Rs:Bx (g2<gk∧gk≠gm∧(Value.slice A7 n7 c7).ownBlock≠some gk):=bx ⟨hgl,fun e=>by omega,fun e=>Nat.lt_irrefl _ (hol gk e)⟩;clear hb hg hw hgl hol hml HE HR HM;have HE:=HE_;have HR:=HR_;have HM:=HM_;clear HE_ HR_ HM_;have HK:=bx Zd;clear Zd;refine hK.out _ _ ⟨(HE.out.b1.cell 0).trans rfl,(HE.out.b1.cell 6).trans rfl⟩ ?_;clear hK hP K
    iterate 1 (apply SeqW.take;(· rfl);(· (refine Or.inl ⟨?_,?_⟩;(· rfl);(· (intro w hSw;(try dsimp only at hSw);go_simp <;> with_reducible rfl))));simp only[Act.put,Z01,Z02,Z03,Z06,Z04,Z05])
    refine SeqW.done ?_
    (try simp only[Act.put,Z01,Z02,Z03])
    go_wp2
    go_meet
    exact⟨gk,gm,A7,n7,c7,rfl,bx (by rw[Ql.out]),bx ⟨HE.out,HK.out,HR.out,HM.out,⟨Rs.out.2.1,Rs.out.2.2,Xo.out⟩,fun k e=>by rcases e with e | e | e;(rw[e];exact Rs.out.1);(rw[e];exact Ph.out);(exact X4.out k e)⟩⟩
   -- REG3 }
   -- DEV}
  case rest=>
  obtain⟨gk,gm,A7,n7,c7,rfl,hn7,h0⟩:=hcut;obtain⟨X,hXe⟩:∃X:ClE,(⟨ac,nm,su,⟨iA,i_n,ic,il⟩,⟨fA,fn,fc,fl⟩,⟨mA,mn,mc,ml⟩,⟨pA,pn,pc,pl⟩⟩:ClE)=X:=⟨_,rfl⟩;have HXE:=bx hXe;have Sc:Bx (X.access=ac∧X.name=nm∧X.super=su∧X.ifs=⟨iA,i_n,ic,il⟩∧X.fls=⟨fA,fn,fc,fl⟩∧X.mts=⟨mA,mn,mc,ml⟩∧X.pool=⟨pA,pn,pc,pl⟩):=bx (by rw[←hXe];exact⟨rfl,rfl,rfl,rfl,rfl,rfl,rfl⟩);rw[hXe]at h0 HX HN HW HQ Dg;clear hXe;have H0:=h0;have Ql:=hn7;have c6:wc.cell? ⟨g1,6,none⟩=some (.slice pA pn pc):=(H0.out.e.b1.cell 6).trans (by show some (X.pool.v)=_;rw[Sc.out.2.2.2.2.2.2];rfl);clear h0 hn7;go_step
  go_upto_if 37 with(fail)
  clear c6
  go_cut [] from 37 to 43 (fun wx=>∃(A:Option Addr) (n c:Nat) (P0:List Cst),Bx (P0.length=n∧P0=if pl=[] then [cst0] else pl)∧Bx (Mk0 w wx g1 g2 X gk gm (.slice A n c) P0 0 (fun _=>none)))
  case first=>
   -- DEV{
   by_cases hp0:pn=0
   ·subst hp0
    have hpe:pl=[]:=Z36 We.out.1;have hone:=H0.out.one cst0;obtain⟨gz,hgz⟩:∃gz,wc.heap.size=gz:=⟨_,rfl⟩;have hbz:=Y9z (Below.refl wc.heap.size wc) (Z00 _) (.cells #[.int .i64 0,.int .i64 0,.int .i64 0,.int .i64 0,.string ⟨#[]⟩] 39);obtain⟨wz,hwz⟩:∃wz,wc.alloc (.cells #[.int .i64 0,.int .i64 0,.int .i64 0,.int .i64 0,.string ⟨#[]⟩] 39)=wz:=⟨_,rfl⟩;have hwz':wc.alloc (.cells (csCE cst0) 39)=wz:=hwz;rw[hwz',hgz]at hone;rw[hwz]at hbz;have J3:=bx hone;have hf2:=(H0.out.below hbz).bk.frz 2;have hlk:=(H0.out.below hbz).bk.lt;have hc2:=(H0.out.below hbz).c2;have Rn:Bx (([cst0]:List Cst).length=1∧[cst0]=if pl=[] then [cst0] else pl):=bx ⟨rfl,by rw[if_pos hpe]⟩;clear hpe hone hwz' hbz;go_wp2
    go_meet
    case rel=>exact⟨_,_,_,_,Rn,J3⟩
   ·have hpI:((pn:Int)==0)=false:=by simpa using hp0
    have Rn:Bx (pl.length=n7∧pl=if pl=[] then [cst0] else pl):=bx ⟨Ql.out,by rw[if_neg (fun e=>hp0 (by have:=We.out.1;rw[e]at this;exact this.symm))]⟩;clear hp0;go_wp2
    go_meet
    case rel=>exact⟨_,_,_,_,Rn,H0⟩
   -- DEV}
  case rest=>
  obtain⟨A,n,c,P0,hP0,h0⟩:=hcut;have Rn:=bx hP0.out
  have Jc:Bx (∀c∈P0,CstB c):=bx (fun c hc=>by
   have h:=Rn.out.2
   split at h
   ·rw[h]at hc
    rcases Z23.1 hc with e | e
    ·rw[e];exact⟨i64_0,i64_0,i64_0,i64_0,Z35 _⟩
    ·cases e
   ·rw[h]at hc
    have hp:=HN.out.pool.2;rw[Sc.out.2.2.2.2.2.2]at hp;exact W4i (hp c hc) (Z00 _))
  have J2:Bx (P0≠[]∧n≤1024):=bx (by
   have h:=Rn.out.2;have h1:=Np.out.1.1
   split at h
   ·rw[←Rn.out.1,h];exact⟨by simp,by decide⟩
   ·rename_i hne
    rw[←Rn.out.1,h];exact⟨hne,h1⟩)
  have H1:Bx (Mk0 w wc g1 g2 X gk gm (.slice A n c) P0 0 (SeenP (P0.take 0))):=bx (h0.out.ext (fun q=>rfl));have Bu:=bx (OwS.rd h0.out.own);have c2:wc.cell? ⟨gk,2,none⟩=some (.slice A n c):=h0.out.c2;clear h0 hP0 H0 Ql;go_step;go_wp2;clear c2;have hn1024:=J2.out.2
  go_loopw [50] (fun iv wx=>∃(j m:Nat),j≤n∧iv = .int .i64 (j:Int)∧Bx (m≤j∧Mk0 w wx g1 g2 X gk gm (.slice A n c) P0 m (SeenP (P0.take j)))) (fun iv _=>n-(intOf iv).toNat)
  case atStart=>exact⟨0,0,by omega,rfl,bx ⟨Z00 _,H1.out⟩⟩
  case round=>
   clear H1 Bu;obtain⟨j,m,hj,rfl,HJ⟩:=hrel;by_cases hjn:j<n
   ·have hjI:(j:Int)<(n:Int):=by omega
    -- DEV{
    obtain⟨A',c',hv',hrs,_⟩:=OwS.rd HJ.out.2.own;injection hv' with e1 e2 e3
    subst e1;clear e2 e3;obtain⟨ad,y,rfl,hlt,HT,q0,q1⟩:=hrs.at_ cstCels (k:=j) (by rw[Rn.out.1];exact hjn);have Vi:=bx HT.out;have p0:=q0 _ rfl;have p1:=q1 0 _ rfl;have p2:=q1 1 _ rfl;have p3:=q1 2 _ rfl;have p4:=q1 3 _ rfl;simp only[Z22,Nat.reduceAdd]at p1 p2 p3 p4;clear q0 q1 HT hlt hrs;obtain⟨C,hCs⟩:∃C,wr.heap.size=C:=⟨_,rfl⟩;have Yi:=bx (Bk.newAt wr 39 #[.int .i64 y.tag,.int .i64 y.a,.int .i64 y.b,.int .i64 y.num,.string ⟨y.text.toArray⟩] hCs);have J1:=bx (HJ.out.2.below (Y9z (Below.refl wr.heap.size wr) (Z00 _) (.cells #[.int .i64 y.tag,.int .i64 y.a,.int .i64 y.b,.int .i64 y.num,.string ⟨y.text.toArray⟩] 39)));have Ve:Bx (gm<C):=bx (by have:=HJ.out.2.map.lt;omega);have S8:=bx HJ.out.1;have Ws:=bx hCs;have Sw:=bx (csKey y (Jc.out y (Z16 Vi.out)));obtain⟨ks,hks⟩:∃ks,(SeenP (P0.take j) y).getD (.int .i64 0)=ks:=⟨_,rfl⟩;obtain⟨q,hq⟩:∃q,(SeenP (P0.take j) y).isSome=q:=⟨_,rfl⟩;have Ck:=bx hks;have Tb:=bx hq;have Kh:Bx (P0.take (j+1)=P0.take j++[y]):=bx (by rw[Z40,Vi.out];rfl);clear hCs hks hq HJ;go_upto_region 9 with(fail)
    rw[Ws.out];generalize wr.alloc (.cells #[.int .i64 y.tag,.int .i64 y.a,.int .i64 y.b,.int .i64 y.num,.string ⟨y.text.toArray⟩] 39)=wb at Yi J1 ⊢;clear p0 p1 p2 p3 p4 Ws;have Sk:Bx (Bk wb.drew C 39 #[.int .i64 y.tag,.int .i64 y.a,.int .i64 y.b,.int .i64 y.num,.string ⟨y.text.toArray⟩]):=bx (Yi.out.drewN 1);have Gr:Bx (Mk0 w wb.drew g1 g2 X gk gm (.slice (some ad) n c) P0 m (SeenP (P0.take j))):=bx (J1.out.below (below_drewN (Below.refl wb.heap.size wb) 1));clear Yi J1;refine Y9x (S:=fun w'=>w'.cell? ⟨gk,10,none⟩=some (.map (some gm))∧w'.cell? ⟨C,0,none⟩=some (.int .i64 y.tag)∧w'.cell? ⟨C,1,none⟩=some (.int .i64 y.a)∧w'.cell? ⟨C,2,none⟩=some (.int .i64 y.b)∧w'.cell? ⟨C,3,none⟩=some (.int .i64 y.num)∧w'.cell? ⟨C,4,none⟩=some (.string ⟨y.text.toArray⟩)) (.tk 0 (.tk 1 (.tk 2 (.tk 3 (.tk 4 (.rn 5 (.tk 6 (.tk 7 (.tk 8 (.tk 9 (.tk 10 .fin))))))))))) (by kernel_rfl) (by kernel_rfl) (by kernel_rfl) (fun _ _ _ _ h=>h) ⟨Gr.out.c10,(Sk.out.cell 0).trans rfl,(Sk.out.cell 1).trans rfl,(Sk.out.cell 2).trans rfl,(Sk.out.cell 3).trans rfl,(Sk.out.cell 4).trans rfl⟩ ?_;generalize wb.drew=wz at Sk Gr ⊢
    iterate 5 (apply SeqW.take;(· rfl);(· (refine Or.inl ⟨?_,?_⟩;(· rfl);(· (intro w hSw;(try dsimp only at hSw);go_simp <;> with_reducible rfl))));simp only[Act.put,Z01,Z02,Z03,Z06,Z04,Z05])
    refine SeqW.run rfl (fun K hK hP=>?_);refine Y8y rfl (.tmp 59) (.tmp 60) _ rfl 3 csKd Tryd.underlying55 (.int .i64 0) (Y4m _) rfl Gr.out.map y _ rfl Sw.out ks q Ck.out Tb.out ?_;refine wpList_nil ?_;refine hK.out _ _ ⟨Gr.out.c10,(Sk.out.cell 0).trans rfl,(Sk.out.cell 1).trans rfl,(Sk.out.cell 2).trans rfl,(Sk.out.cell 3).trans rfl,(Sk.out.cell 4).trans rfl⟩ ?_;clear hK hP K
    iterate 5 (apply SeqW.take;(· rfl);(· (refine Or.inl ⟨?_,?_⟩;(· rfl);(· (intro w hSw;(try dsimp only at hSw);go_simp <;> with_reducible rfl))));simp only[Act.put,Z01,Z02,Z03,Z06,Z04,Z05])
    refine SeqW.done ?_;cases q with
    | true=>
     obtain⟨i,hi⟩:∃i,idxK (P0.take j) y=some i:=by
      have:=Tb.out
      unfold SeenP at this;cases e:idxK (P0.take j) y with
      | none=>rw[e]at this;cases this
      | some i=>exact⟨i,rfl⟩
     have N1:Bx (m≤j+1∧Mk0 w wz g1 g2 X gk gm (.slice (some ad) n c) P0 m (SeenP (P0.take (j+1)))):=bx ⟨by have:=S8.out;omega,Gr.out.ext (fun q=>by rw[Kh.out];exact X8m hi)⟩;clear hi;go_wp2;go_roundw
     case rel=>exact⟨j+1,m,by omega,by go_num,N1⟩
     case measure=>simp [intOf];omega
    | false=>
     have hix:idxK (P0.take j) y=none:=by
      have:=Tb.out
      unfold SeenP at this;cases e:idxK (P0.take j) y with
      | none=>rfl
      | some i=>rw[e]at this;cases this
     have O4:=bx hix;clear hix;by_cases hj0:j=0
     ·subst hj0
      have N1:Bx (m≤0+1∧Mk0 w wz g1 g2 X gk gm (.slice (some ad) n c) P0 m (SeenP (P0.take (0+1)))):=bx ⟨by have:=S8.out;omega,Gr.out.ext (fun q=>by rw[Kh.out];rfl)⟩;go_wp2;go_roundw
      case rel=>exact⟨0+1,m,by omega,by go_num,N1⟩
      case measure=>simp [intOf];omega
     ·have hj0I:(0:Int)<(j:Int):=by omega
      have D3:Bx (P0.take j≠[]∧(P0.take j).length=j):=bx (by
       have h:(P0.take j).length=j:=by rw[Z29,Rn.out.1];omega
       exact⟨fun e=>by rw[e]at h;simp at h;omega,h⟩)
      clear hj0;go_upto_region 11 with(fail)
      have Mq:Bx (Bk wz.drew C 39 #[.int .i64 y.tag,.int .i64 y.a,.int .i64 y.b,.int .i64 y.num,.string ⟨y.text.toArray⟩]):=bx (Sk.out.drewN 1);have S7:Bx (Mk0 w wz.drew g1 g2 X gk gm (.slice (some ad) n c) P0 m (SeenP (P0.take j))):=bx (Gr.out.below (below_drewN (Below.refl wz.heap.size wz) 1));clear Sk Gr;refine Y9x (S:=fun w'=>w'.cell? ⟨gk,10,none⟩=some (.map (some gm))∧w'.cell? ⟨C,0,none⟩=some (.int .i64 y.tag)∧w'.cell? ⟨C,1,none⟩=some (.int .i64 y.a)∧w'.cell? ⟨C,2,none⟩=some (.int .i64 y.b)∧w'.cell? ⟨C,3,none⟩=some (.int .i64 y.num)∧w'.cell? ⟨C,4,none⟩=some (.string ⟨y.text.toArray⟩)) (.tk 0 (.tk 1 (.tk 2 (.tk 3 (.tk 4 (.tk 5 (.rn 6 .fin))))))) (by kernel_rfl) (by kernel_rfl) (by kernel_rfl) (fun _ _ _ _ h=>h) ⟨S7.out.c10,(Mq.out.cell 0).trans rfl,(Mq.out.cell 1).trans rfl,(Mq.out.cell 2).trans rfl,(Mq.out.cell 3).trans rfl,(Mq.out.cell 4).trans rfl⟩ ?_;generalize wz.drew=we at Mq S7 ⊢
      iterate 6 (apply SeqW.take;(· rfl);(· (refine Or.inl ⟨?_,?_⟩;(· rfl);(· (intro w hSw;(try dsimp only at hSw);go_simp <;> with_reducible rfl))));simp only[Act.put,Z01,Z02,Z03,Z06,Z04,Z05])
      refine SeqW.run rfl (fun K hK hP=>?_);have hm4:m<maxLen:=by have:=S8.out;unfold maxLen;omega
      refine Y8l rfl (.tmp 73) (.tmp 74) (.tmp 75) _ rfl 3 csKd Tryd.underlying55 rfl S7.out.map X6o hm4 y (.int .i64 (j:Int)) _ rfl rfl Sw.out ?_;intro w6 hm6 hg6;have hk6:=Mq.out.grown hg6 (fun e=>by injection e with e;have:=Ve.out;omega);have hj6:=S7.out.put hm6 hg6;have N1:Bx (m+1≤j+1∧Mk0 w w6 g1 g2 X gk gm (.slice (some ad) n c) P0 (m+1) (SeenP (P0.take (j+1)))):=bx ⟨by have:=S8.out;omega,hj6.ext (fun q=>by rw[Kh.out];have h:=Y2p D3.out.1 O4.out q;rw[D3.out.2]at h;exact h)⟩;refine wpList_nil ?_;refine hK.out _ _ ⟨hj6.c10,(hk6.cell 0).trans rfl,(hk6.cell 1).trans rfl,(hk6.cell 2).trans rfl,(hk6.cell 3).trans rfl,(hk6.cell 4).trans rfl⟩ ?_;clear hK hP K hm4 hm6 hg6 hk6 hj6;refine SeqW.done ?_
      (try simp only[Act.put])
      go_wp2;go_roundw
      case rel=>exact⟨j+1,m+1,by omega,by go_num,N1⟩
      case measure=>simp [intOf];omega
    -- DEV}
   ·obtain rfl:j=n:=by omega
    have hjI:¬(j:Int)<(j:Int):=(by omega);have hZ:MkZ w wr wr.heap.size g1 g2 X gk gm 0 0 (.slice A j c) nilS nilS nilS P0 [] [] []:=by have h:=HJ.out.2;rw[Z15 (by rw[Rn.out.1];exact Z00 _)]at h;exact h.z J2.out.1 (by rw[Rn.out.1];exact HJ.out.1) Jc.out
    have J0:Bx (g2<gk):=bx (HJ.out.2.lo gk (.inl rfl));have HZ:=bx hZ;clear hZ HJ;have Xu:Bx (P0.length≤1024):=bx (by rw[Rn.out.1];exact J2.out.2);obtain⟨V0,hV0⟩:∃V0,Value.slice A j c=V0:=⟨_,rfl⟩;rw[hV0]at HZ;obtain⟨bd,hbd⟩:∃bd,wr.heap.size=bd:=⟨_,rfl⟩;rw[hbd]at HZ;have X2:Bx (nm.length≤2000000∧su.length≤2000000):=bx (by have h1:=HN.out.name;have h2:=HN.out.super;rw[Sc.out.2.1]at h1;rw[Sc.out.2.2.1]at h2;exact⟨h1,h2⟩);have Sb:=bx (Y8b w wr gk gm _ V0 P0 nm HZ.out.s.mkr X2.out.1 (by have:=Xu.out;omega));have htl:=Y6e P0 nm;have hta:=X4m P0 nm;obtain⟨T,hT⟩:∃T,pclK P0 nm=T:=⟨_,rfl⟩;rw[hT]at Sb htl hta;have S9:Bx (T.1.length≤1026∧T.2≤1025):=bx (by have:=Xu.out;omega);have HTE:=bx hT;have c1:wr.cell? ⟨g1,1,none⟩=some (.string ⟨nm.toArray⟩):=(HZ.out.e.b1.cell 1).trans (by show some (strQ X.name)=_;rw[Sc.out.2.1];rfl);clear hV0 hbd htl hta hT;go_upto_region 14 with(go_at_call 10;refine Sb.out.mono ?_;rintro e wy ⟨V1,rfl,h3,h4⟩;obtain⟨z1,f1⟩:=HZ.out.call h3 h4;have Zv:=bx z1;have hf4:wy.frozen? ⟨gk,4,none⟩=false:=z1.s.mkr.box.frz 4;have hc4:wy.cell? ⟨gk,4,none⟩=some (.int .i64 0):=(z1.s.mkr.box.cell 4).trans rfl;have hlk:=z1.s.mkr.box.lt;clear h3 h4 z1 f1)
    have Ti:Bx (MkZ w (wy.setCell ⟨gk,4,none⟩ (.int .i64 (T.2:Int))) bd g1 g2 X gk gm (T.2:Int) 0 V1 nilS nilS nilS T.1 [] [] []):=bx (Zv.out.on (Zv.out.s.set4 _).1 (Zv.out.s.set4 _).2);clear hf4 hc4 hlk HZ Zv Sb c1;generalize wy.setCell ⟨gk,4,none⟩ (.int .i64 (T.2:Int))=wt at Ti ⊢;have c2:wt.cell? ⟨g1,2,none⟩=some (.string ⟨su.toArray⟩):=(Ti.out.e.b1.cell 2).trans (by show some (strQ X.super)=_;rw[Sc.out.2.2.1];rfl)
    go_upto_if 87 with(fail)
    go_cut [] from 87 to 95 (fun wx=>∃(Q:List Cst×Nat) (V2:Value),Bx ((if su=[] then (T.1,0) else pclK T.1 su)=Q)∧Bx (MkZ w wx bd g1 g2 X gk gm (T.2:Int) (Q.2:Int) V2 nilS nilS nilS Q.1 [] [] []))
    case first=>
     -- DEV{
     by_cases hs0:su=[]
     ·have Z8:Bx ((if su=[] then (T.1,0) else pclK T.1 su)=(T.1,0)):=bx (if_pos hs0)
      have hse:(!su.isEmpty)=false:=by rw[hs0];rfl
      rw[hse];clear hse hs0;go_wp2
      go_meet
      case rel=>exact⟨(T.1,0),V1,Z8,Ti⟩
     ·have Z8:Bx ((if su=[] then (T.1,0) else pclK T.1 su)=pclK T.1 su):=bx (if_neg hs0)
      have hse:(!su.isEmpty)=true:=(by cases su with | nil=>exact absurd rfl hs0 | cons a b=>rfl);rw[hse];have D2:=bx (Y8b w wt gk gm _ V1 T.1 su Ti.out.s.mkr X2.out.2 (by have:=S9.out.1;omega));clear hse hs0;go_wp2_with (go_at_call 10;refine D2.out.mono ?_;rintro e wy ⟨V2,rfl,h3,h4⟩;obtain⟨z1,f1⟩:=Ti.out.call h3 h4;have Nx:=bx z1;have hf5:wy.frozen? ⟨gk,5,none⟩=false:=z1.s.mkr.box.frz 5;have hc5:wy.cell? ⟨gk,5,none⟩=some (.int .i64 0):=(z1.s.mkr.box.cell 5).trans rfl;have hlk:=z1.s.mkr.box.lt;clear h3 h4 z1 f1)
      go_meet
      case rel=>exact⟨pclK T.1 su,V2,Z8,bx (Nx.out.on (Nx.out.s.set5 _).1 (Nx.out.s.set5 _).2)⟩
     -- DEV}
    case rest=>
    obtain⟨Q,V2,hQE,hZ⟩:=hcut;have X7:=bx hQE.out
    have D1:Bx (Q.1.length≤1028∧Q.2≤1027):=bx (by
     have h:=Y6e T.1 su;have h2:=X4m T.1 su;have h3:=S9.out;have h4:=X7.out
     split at h4
     ·rw[←h4];exact⟨by show T.1.length≤_;omega,Z35 _⟩
     ·rw[h4]at h h2;omega)
    have Mn:Bx (MkZ w wc bd g1 g2 X gk gm (T.2:Int) (Q.2:Int) V2 nilS nilS nilS (rowK mifK Q.1 (il.take 0)).1 (rowK mifK Q.1 (il.take 0)).2 [] []):=bx hZ.out;have c3:wc.cell? ⟨g1,3,none⟩=some (.slice iA i_n ic):=(hZ.out.e.b1.cell 3).trans (by show some X.ifs.v=_;rw[Sc.out.2.2.2.1];rfl);have Ce:Bx (il.length=i_n∧i_n≤64∧RL strQ w w.heap.size iA il∧∀s∈il,s.length≤2000000):=bx (by have h1:=HX.out.ifs;have h2:=HN.out.ifs.2;have h3:=Np.out.1.2.1;rw[Sc.out.2.2.2.1]at h1 h2;have h4:il.length=i_n:=h1.1;exact⟨h4,by rw[←h4];exact h3,W5j (h1.rs (fun _ h=>h)),h2⟩);clear hQE hZ Ti c2;go_step;go_wp2;clear c3;have hin64:=Ce.out.2.1
    go_loopw [99] (fun iv wx=>∃(i:Nat) (V I:Value),i≤i_n∧iv = .int .i64 (i:Int)∧Bx (MkZ w wx bd g1 g2 X gk gm (T.2:Int) (Q.2:Int) V I nilS nilS (rowK mifK Q.1 (il.take i)).1 (rowK mifK Q.1 (il.take i)).2 [] [])) (fun iv _=>i_n-(intOf iv).toNat)
    case atStart=>exact⟨0,V2,nilS,by omega,rfl,Mn⟩
    case round=>
     clear Mn;obtain⟨i,V,I,hi,rfl,HZ⟩:=hrel;by_cases hin:i<i_n
     ·have hiI:(i:Int)<(i_n:Int):=by omega
      -- DEV{
      obtain⟨ad,sx,rfl,hlt,HT,p0⟩:=(Ce.out.2.2.1.below HZ.out.e.bel (Z00 _)).atl (k:=i) (by rw[Ce.out.1];exact hin);unfold strQ at p0;have Vi:=bx HT.out;have Vy:Bx (sx.length≤2000000):=bx (Ce.out.2.2.2 _ (Z16 Vi.out));have hnx:=Y7b mifK Q.1 Vi.out;have hlen:=Y7h (K:=2) (B:=1) (il.take i) Q.1 (fun s _ P=>X4u P s);obtain⟨R,hR⟩:∃R,rowK mifK Q.1 (il.take i)=R:=⟨_,rfl⟩;rw[hR]at HZ hnx hlen;have Zb:=bx hnx
      have Xy:Bx (R.1.length≤2000∧R.2.length≤64):=bx (by
       have:=D1.out.1
       rw[Z29]at hlen;omega)
      clear HT hnx hlen hR hlt;go_upto_region 19 with(fail)
      have Zy:Bx (MkZ w wr.drew bd g1 g2 X gk gm (T.2:Int) (Q.2:Int) V I nilS nilS R.1 R.2 [] []):=bx (HZ.out.below (below_drewN (Below.refl wr.heap.size wr) 1));clear HZ p0
      -- REG19 {
      refine Y9x (S:=fun _=>True) (.tk 0 (.tk 1 (.tk 2 (.tk 3 (.tk 4 (.tk 6 (.tk 7 (.alt 5 (.rn 8 (.rn 9 (.rn 10 (.tk 11 (.tk 12 (.tk 13 (.rn 14 .fin))))))) (.alt 8 (.alt 5 (.rn 9 (.rn 10 (.tk 11 (.tk 12 (.tk 13 (.rn 14 .fin)))))) (.alt 9 (.rn 5 (.rn 10 (.tk 11 (.tk 12 (.tk 13 (.rn 14 .fin)))))) .non)) .non))))))))) (by kernel_rfl) (by kernel_rfl) (by kernel_rfl) (fun _ _ _ _ h=>h) trivial ?_;generalize wr.drew=y0 at Zy ⊢
      iterate 7 (apply SeqW.take;(· rfl);(· (refine Or.inl ⟨?_,?_⟩;(· rfl);(· (intro w hSw;(try dsimp only at hSw);go_simp <;> with_reducible rfl))));simp only[Act.put,Z01,Z02,Z03,Z06,Z04,Z05])
      refine SeqW.both rfl (fun K hK hP=>?_) ?_
      ·have k6:y0.cell? ⟨gk,6,none⟩=some I:=Zy.out.s.c6
       go_wp2_with fail
       refine hK.out _ _ trivial ?_;clear hK hP K k6;refine SeqW.run rfl (fun K hK hP=>?_);go_wp2_with fail
       refine(Y8b w y0 gk gm _ V R.1 sx Zy.out.s.mkr Vy.out (by have:=Xy.out.1;omega)).mono ?_
       rintro e y2 ⟨V1,rfl,h3,h4⟩;obtain⟨z1,f1⟩:=Zy.out.call h3 h4;have Zv:=bx z1;clear h3 h4 z1 f1 Zy;have Zy:=Zv;clear Zv;go_wp2;refine hK.out _ _ trivial ?_;clear hK hP K;refine SeqW.run rfl (fun K hK hP=>?_);go_wp2_with fail
       have hb:=Y9z (Below.refl y2.heap.size y2) (Z00 _) (.cells #[.int .i64 ((pclK R.1 sx).2:Int)] 3);have Zv:=bx (Zy.out.below hb);have Zd:=RL.top (RL.news y2 [((pclK R.1 sx).2:Int)] #[.int .i64 ((pclK R.1 sx).2:Int)] rfl 3 (0,0));obtain⟨gz,hg⟩:∃gz,y2.heap.size=gz:=⟨_,rfl⟩;obtain⟨y3,hw⟩:∃y3,y2.alloc (.cells #[.int .i64 ((pclK R.1 sx).2:Int)] 3)=y3:=⟨_,rfl⟩;rw[hg,hw];rw[hw]at Zv Zd;rw[hg]at Zd;clear hb hg hw Zy;have Zy:=Zv;have Vb:=bx Zd;clear Zv Zd;refine hK.out _ _ trivial ?_;clear hK hP K;refine SeqW.run rfl (fun K hK hP=>?_);refine Y9l _ X9z rfl (.tmp 108) (.tmp 112) rfl mkIntTy (by decide) w.heap.size I R.2 rfl Zy.out.s.i y3.heap.size (some ⟨gz,0,none⟩) 1 1 [((pclK R.1 sx).2:Int)] rfl rfl Vb.out (by have:=Xy.out.2;simp only[Z11,Z13];omega) Zy.out.e.bel.size ?_;intro V7 y4 hO hg hv _;obtain⟨A7,n7,c7,rfl,hq1,hq2⟩:=OwL.sl hO;clear hq1 hq2;obtain⟨a1,a2,a3⟩:=Zy.out.s.appI hO hg hv;have Wh:=bx a1;have Nl:=bx (Zy.out.on a2 a3);clear a1 a2 a3 Zy;refine wpList_nil ?_;refine hK.out _ _ trivial ?_;clear hK hP K hO hg hv
       iterate 3 (apply SeqW.take;(· rfl);(· (refine Or.inl ⟨?_,?_⟩;(· rfl);(· (intro w hSw;(try dsimp only at hSw);go_simp <;> with_reducible rfl))));simp only[Act.put,Z01,Z02,Z03,Z06,Z04,Z05])
       refine SeqW.run rfl (fun K hK hP=>?_);have hf6:y4.frozen? ⟨gk,6,none⟩=false:=Wh.out.frz 6;have hlk:=Wh.out.lt;have hk6:y4.cell? ⟨gk,6,none⟩=some I:=(Wh.out.cell 6).trans rfl;go_wp2_with fail
       refine hK.out _ _ trivial ?_;clear hK hP K hf6 hlk hk6 Wh;refine SeqW.done ?_
       (try simp only[Act.put])
       go_wp2;go_roundw
       case rel=>refine⟨i+1,V1,.slice A7 n7 c7,by omega,by go_num,bx ?_⟩;rw[Zb.out];exact Nl.out
       case measure=>simp [intOf];omega
      ·refine SeqW.run rfl (fun K hK hP=>?_)
       go_wp2_with fail
       refine(Y8b w y0 gk gm _ V R.1 sx Zy.out.s.mkr Vy.out (by have:=Xy.out.1;omega)).mono ?_
       rintro e y6 ⟨V1,rfl,h3,h4⟩;obtain⟨z1,f1⟩:=Zy.out.call h3 h4;have Zv:=bx z1;clear h3 h4 z1 f1 Zy;have Zy:=Zv;clear Zv;go_wp2;refine hK.out _ _ trivial ?_;clear hK hP K;refine SeqW.both rfl (fun K hK hP=>?_) ?_
       ·have k6:y6.cell? ⟨gk,6,none⟩=some I:=Zy.out.s.c6
        go_wp2_with fail
        refine hK.out _ _ trivial ?_;clear hK hP K k6;refine SeqW.run rfl (fun K hK hP=>?_);go_wp2_with fail
        have hb:=Y9z (Below.refl y6.heap.size y6) (Z00 _) (.cells #[.int .i64 ((pclK R.1 sx).2:Int)] 3);have Zv:=bx (Zy.out.below hb);have Zd:=RL.top (RL.news y6 [((pclK R.1 sx).2:Int)] #[.int .i64 ((pclK R.1 sx).2:Int)] rfl 3 (0,0));obtain⟨gz,hg⟩:∃gz,y6.heap.size=gz:=⟨_,rfl⟩;obtain⟨y8,hw⟩:∃y8,y6.alloc (.cells #[.int .i64 ((pclK R.1 sx).2:Int)] 3)=y8:=⟨_,rfl⟩;rw[hg,hw];rw[hw]at Zv Zd;rw[hg]at Zd;clear hb hg hw Zy;have Zy:=Zv;have Vb:=bx Zd;clear Zv Zd;refine hK.out _ _ trivial ?_;clear hK hP K;refine SeqW.run rfl (fun K hK hP=>?_);refine Y9l _ X9z rfl (.tmp 108) (.tmp 112) rfl mkIntTy (by decide) w.heap.size I R.2 rfl Zy.out.s.i y8.heap.size (some ⟨gz,0,none⟩) 1 1 [((pclK R.1 sx).2:Int)] rfl rfl Vb.out (by have:=Xy.out.2;simp only[Z11,Z13];omega) Zy.out.e.bel.size ?_;intro V7 y9 hO hg hv _;obtain⟨A7,n7,c7,rfl,hq1,hq2⟩:=OwL.sl hO;clear hq1 hq2;obtain⟨a1,a2,a3⟩:=Zy.out.s.appI hO hg hv;have Wh:=bx a1;have Nl:=bx (Zy.out.on a2 a3);clear a1 a2 a3 Zy;refine wpList_nil ?_;refine hK.out _ _ trivial ?_;clear hK hP K hO hg hv
        iterate 3 (apply SeqW.take;(· rfl);(· (refine Or.inl ⟨?_,?_⟩;(· rfl);(· (intro w hSw;(try dsimp only at hSw);go_simp <;> with_reducible rfl))));simp only[Act.put,Z01,Z02,Z03,Z06,Z04,Z05])
        refine SeqW.run rfl (fun K hK hP=>?_);have hf6:y9.frozen? ⟨gk,6,none⟩=false:=Wh.out.frz 6;have hlk:=Wh.out.lt;have hk6:y9.cell? ⟨gk,6,none⟩=some I:=(Wh.out.cell 6).trans rfl;go_wp2_with fail
        refine hK.out _ _ trivial ?_;clear hK hP K hf6 hlk hk6 Wh;refine SeqW.done ?_
        (try simp only[Act.put])
        go_wp2;go_roundw
        case rel=>refine⟨i+1,V1,.slice A7 n7 c7,by omega,by go_num,bx ?_⟩;rw[Zb.out];exact Nl.out
        case measure=>simp [intOf];omega
       ·refine SeqW.run rfl (fun K hK hP=>?_)
        go_wp2_with fail
        have hb:=Y9z (Below.refl y6.heap.size y6) (Z00 _) (.cells #[.int .i64 ((pclK R.1 sx).2:Int)] 3);have Zv:=bx (Zy.out.below hb);have Zd:=RL.top (RL.news y6 [((pclK R.1 sx).2:Int)] #[.int .i64 ((pclK R.1 sx).2:Int)] rfl 3 (0,0));obtain⟨gz,hg⟩:∃gz,y6.heap.size=gz:=⟨_,rfl⟩;obtain⟨y11,hw⟩:∃y11,y6.alloc (.cells #[.int .i64 ((pclK R.1 sx).2:Int)] 3)=y11:=⟨_,rfl⟩;rw[hg,hw];rw[hw]at Zv Zd;rw[hg]at Zd;clear hb hg hw Zy;have Zy:=Zv;have Vb:=bx Zd;clear Zv Zd;refine hK.out _ _ trivial ?_;clear hK hP K;refine SeqW.run rfl (fun K hK hP=>?_);have k6:y11.cell? ⟨gk,6,none⟩=some I:=Zy.out.s.c6;go_wp2_with fail
        refine hK.out _ _ trivial ?_;clear hK hP K k6;refine SeqW.run rfl (fun K hK hP=>?_);refine Y9l _ X9z rfl (.tmp 108) (.tmp 112) rfl mkIntTy (by decide) w.heap.size I R.2 rfl Zy.out.s.i y11.heap.size (some ⟨gz,0,none⟩) 1 1 [((pclK R.1 sx).2:Int)] rfl rfl Vb.out (by have:=Xy.out.2;simp only[Z11,Z13];omega) Zy.out.e.bel.size ?_;intro V7 y13 hO hg hv _;obtain⟨A7,n7,c7,rfl,hq1,hq2⟩:=OwL.sl hO;clear hq1 hq2;obtain⟨a1,a2,a3⟩:=Zy.out.s.appI hO hg hv;have Wh:=bx a1;have Nl:=bx (Zy.out.on a2 a3);clear a1 a2 a3 Zy;refine wpList_nil ?_;refine hK.out _ _ trivial ?_;clear hK hP K hO hg hv
        iterate 3 (apply SeqW.take;(· rfl);(· (refine Or.inl ⟨?_,?_⟩;(· rfl);(· (intro w hSw;(try dsimp only at hSw);go_simp <;> with_reducible rfl))));simp only[Act.put,Z01,Z02,Z03,Z06,Z04,Z05])
        refine SeqW.run rfl (fun K hK hP=>?_);have hf6:y13.frozen? ⟨gk,6,none⟩=false:=Wh.out.frz 6;have hlk:=Wh.out.lt;have hk6:y13.cell? ⟨gk,6,none⟩=some I:=(Wh.out.cell 6).trans rfl;go_wp2_with fail
        refine hK.out _ _ trivial ?_;clear hK hP K hf6 hlk hk6 Wh;refine SeqW.done ?_
        (try simp only[Act.put])
        go_wp2;go_roundw
        case rel=>refine⟨i+1,V1,.slice A7 n7 c7,by omega,by go_num,bx ?_⟩;rw[Zb.out];exact Nl.out
        case measure=>simp [intOf];omega
      -- REG19 }
      -- DEV}
     ·obtain rfl:i=i_n:=by omega
      have hiI:¬(i:Int)<(i:Int):=(by omega);have hr1:=Y7h (K:=2) (B:=1) il Q.1 (fun s _ P=>X4u P s);obtain⟨R1,hR1⟩:∃R1,rowK mifK Q.1 il=R1:=⟨_,rfl⟩;rw[hR1]at hr1;have Xd:=bx hR1;have X1:Bx (R1.1.length≤1200):=bx (by have:=D1.out.1;have:=Ce.out;omega);have Df:Bx (MkZ w wr bd g1 g2 X gk gm (T.2:Int) (Q.2:Int) V I nilS nilS R1.1 R1.2 [] []):=bx (by have h:=HZ.out;rwa [Y6p mifK Q.1 (by rw[Ce.out.1];exact Z00 _),hR1]at h);have c4:wr.cell? ⟨g1,4,none⟩=some (.slice fA fn fc):=(HZ.out.e.b1.cell 4).trans (by show some X.fls.v=_;rw[Sc.out.2.2.2.2.1];rfl);have Sv:Bx (fl.length=fn∧fn≤64∧RS flC w w.heap.size fA fl∧∀s∈fl,FlN 2000000 s):=bx (by have h1:=HX.out.fls;have h2:=HN.out.fls.2;have h3:=Np.out.1.2.2.1;rw[Sc.out.2.2.2.2.1]at h1 h2;have h4:fl.length=fn:=h1.1;exact⟨h4,by rw[←h4];exact h3,h1.rs (fun _ h=>h),h2⟩);clear HZ hR1 hr1;go_wp2;clear c4 hiI hin64;have hfn64:=Sv.out.2.1;obtain⟨wp,rfl⟩:∃wp,wp=wr:=⟨_,rfl⟩;have Dq:Bx (([]:List MmE).map MmE.p=(rowK mflK R1.1 (fl.take 0)).2):=bx rfl
      go_loopw [121] (fun iv wx=>∃(i b:Nat) (V F:Value) (fs:List MmE),i≤fn∧iv = .int .i64 (i:Int)∧Bx (fs.map MmE.p=(rowK mflK R1.1 (fl.take i)).2)∧Bx (MkZ w wx b g1 g2 X gk gm (T.2:Int) (Q.2:Int) V I F nilS (rowK mflK R1.1 (fl.take i)).1 R1.2 fs [])) (fun iv _=>fn-(intOf iv).toNat)
      case atStart=>exact⟨0,bd,V,nilS,[],by omega,rfl,Dq,Df⟩
      case round=>
       clear Df Dq;obtain⟨i,b,V,F,fs,hi,rfl,Nk,HZ⟩:=hrel;by_cases hin:i<fn
       ·have hiI:(i:Int)<(fn:Int):=by omega
        -- DEV{
        obtain⟨ad,f9,rfl,hlt,HT,q0,q1⟩:=(Sv.out.2.2.1.below HZ.out.e.bel (Z00 _)).at_ flCels (k:=i) (by rw[Sv.out.1];exact hin);obtain⟨fa,fnm,fds,fcn⟩:=f9;have Vi:=bx HT.out;have p0:=q0 _ rfl;have p1:=q1 0 _ rfl;have p2:=q1 1 _ rfl;have p3:=q1 2 _ rfl;simp only[Z22,Nat.reduceAdd]at p1 p2 p3;unfold strQ at p1 p2;clear q0 q1 HT hlt;have hfo:=Sv.out.2.2.2 _ (Z16 Vi.out);have Gq:Bx (fnm.length≤2000000∧fds.length≤2000000):=bx ⟨hfo.2.1,hfo.2.2.1⟩;have hnx:=Y7b mflK R1.1 Vi.out;have hlen:=Y7h (K:=3) (B:=1) (fl.take i) R1.1 (fun s _ P=>X5h P s);obtain⟨R,hR⟩:∃R,rowK mflK R1.1 (fl.take i)=R:=⟨_,rfl⟩;rw[hR]at HZ Nk hnx hlen;have Zb:=bx hnx;have Xy:Bx (R.1.length≤2000∧(fs.length+1)*48≤140737488355328):=bx (by have h:=X1.out;have h2:=congrArg List.length Nk.out;rw[Z17]at h2;rw[Z29]at hlen;omega);obtain⟨C,hCs⟩:∃C,wr.heap.size=C:=⟨_,rfl⟩;have hzt:=HZ.out.top;rw[hCs]at hzt;have hb9:=Y9z (Below.refl wr.heap.size wr) (Z00 _) (.cells #[.int .i64 fa,.string ⟨fnm.toArray⟩,.string ⟨fds.toArray⟩,.int .i64 fcn] 61);have Px:=bx (hzt.below hb9);have Pj:=bx (Bk.newAt wr 61 #[.int .i64 fa,.string ⟨fnm.toArray⟩,.string ⟨fds.toArray⟩,.int .i64 fcn] hCs);have Wa:=bx (hzt.s.fp (Z32 hCs));have Zc:Bx (g2<C):=bx (by have:=HZ.out.e.lt.2;omega);have Vv:Bx (gk<C):=bx (by have:=HZ.out.s.mkr.box.lt;omega);have Ws:=bx hCs;clear hnx hlen hR hfo hCs hzt hb9 HZ;go_upto_region 24 with(fail)
        rw[Ws.out];generalize wr.alloc (.cells #[.int .i64 fa,.string ⟨fnm.toArray⟩,.string ⟨fds.toArray⟩,.int .i64 fcn] 61)=wb at Px Pj ⊢;clear p0 p1 p2 p3 Ws;have Zy:Bx (MkZ w wb.drew C g1 g2 X gk gm (T.2:Int) (Q.2:Int) V I F nilS R.1 R1.2 fs []):=bx (Px.out.below (below_drewN (Below.refl wb.heap.size wb) 1));have HC:Bx (Bk wb.drew C 61 #[.int .i64 fa,.string ⟨fnm.toArray⟩,.string ⟨fds.toArray⟩,.int .i64 fcn]):=bx (Pj.out.drewN 1);clear Px Pj
        go_cut [13] from 125 to 131 (fun v13 wx=>∃(gx:Nat) (V1:Value),v13 = .pointer (some ⟨gx,0,none⟩)∧Bx (MkZ w wx C g1 g2 X gk gm (T.2:Int) (Q.2:Int) V1 I F nilS (ptxK R.1 fnm).1 R1.2 fs [])∧Bx (Bk wx C 61 #[.int .i64 fa,.string ⟨fnm.toArray⟩,.string ⟨fds.toArray⟩,.int .i64 fcn])∧Bx (Bk wx gx 43 #[.int .i64 fa,.int .i64 ((ptxK R.1 fnm).2:Int),.int .i64 0,.slice none 0 0])∧Bx (C<gx∧¬MkG gk gm V1 I F nilS gx∧¬MkG gk gm V1 I F nilS C))
        case first=>
          -- DEV{ r24
          -- REG24F {
          refine Y9x (S:=fun w'=>w'.cell? ⟨C,0,none⟩=some (.int .i64 fa)∧w'.cell? ⟨C,1,none⟩=some (.string ⟨fnm.toArray⟩)) (.tk 0 (.tk 1 (.tk 2 (.tk 3 (.tk 4 (.alt 5 (.tk 6 (.rn 7 (.rn 8 .fin))) (.alt 7 (.rn 5 (.tk 6 (.rn 8 .fin))) .non))))))) (by kernel_rfl) (by kernel_rfl) (by kernel_rfl) (fun _ _ _ _ h=>h) ⟨(HC.out.cell 0).trans rfl,(HC.out.cell 1).trans rfl⟩ ?_;generalize wb.drew=y0 at Zy HC ⊢
          iterate 5 (apply SeqW.take;(· rfl);(· (refine Or.inl ⟨?_,?_⟩;(· rfl);(· (intro w hSw;(try dsimp only at hSw);go_simp <;> with_reducible rfl))));simp only[Act.put,Z01,Z02,Z03,Z06,Z04,Z05])
          refine SeqW.both rfl (fun K hK hP=>?_) ?_
          ·go_wp2_with fail
           refine(Y9k w y0 gk gm _ V R.1 fnm Zy.out.s.mkr Gq.out.1 (by have:=Xy.out.1;omega)).mono ?_
           rintro e y1 ⟨V1,rfl,h3,h4⟩;obtain⟨z1,f1⟩:=Zy.out.call h3 h4;have Zv:=bx z1;have Zt:=bx (HC.out.ch f1.ch Wa.out);have Ww:=bx (f1.far HC.out.lt Wa.out);clear h3 h4 z1 f1 Zy HC Wa;have Zy:=Zv;have HC:=Zt;have Wa:=Ww;clear Zv Zt Ww;go_wp2;refine hK.out _ _ ⟨(HC.out.cell 0).trans rfl,(HC.out.cell 1).trans rfl⟩ ?_;clear hK hP K
           iterate 1 (apply SeqW.take;(· rfl);(· (refine Or.inl ⟨?_,?_⟩;(· rfl);(· (intro w hSw;(try dsimp only at hSw);go_simp <;> with_reducible rfl))));simp only[Act.put,Z01,Z02,Z03,Z06,Z04,Z05])
           refine SeqW.run rfl (fun K hK hP=>?_);go_wp2_with fail
           have hb:=Y9z (Below.refl y1.heap.size y1) (Z00 _) (.cells #[.int .i64 0,.int .i64 0,.int .i64 0,.slice none 0 0] 43);have Zv:=bx (Zy.out.below hb);have Zt:=bx (HC.out.below hb HC.out.lt);have hnx:=Zy.out.s.fp (Z00 y1.heap.size);have hgx:=Bk.new y1 43 #[.int .i64 0,.int .i64 0,.int .i64 0,.slice none 0 0];have hcl:=HC.out.lt;obtain⟨gx,hg⟩:∃gx,y1.heap.size=gx:=⟨_,rfl⟩;obtain⟨y2,hw⟩:∃y2,y1.alloc (.cells #[.int .i64 0,.int .i64 0,.int .i64 0,.slice none 0 0] 43)=y2:=⟨_,rfl⟩;rw[hg,hw];rw[hw]at Zv Zt hgx;rw[hg]at hgx hnx hcl;have Zh:Bx (C<gx):=bx hcl;have Zz:=bx hgx;have Zb:=bx hnx;clear hb hg hw hcl hgx hnx Zy HC;have Zy:=Zv;have HC:=Zt;clear Zv Zt;refine hK.out _ _ ⟨(HC.out.cell 0).trans rfl,(HC.out.cell 1).trans rfl⟩ ?_;clear hK hP K;refine SeqW.run rfl (fun K hK hP=>?_);refine wpList_store_row rfl 43 (.tmp 13) (.tmp 131) rfl gx #[.int .i64 fa,.int .i64 ((ptxK R.1 fnm).2:Int),.int .i64 0,.slice none 0 0] rfl rfl 43 #[.int .i64 0,.int .i64 0,.int .i64 0,.slice none 0 0] Zz.out Y3c rfl (Y5s _ _ _) ?_;refine wpList_nil ?_;have hch:=Y9t y2 gx #[.int .i64 fa,.int .i64 ((ptxK R.1 fnm).2:Int),.int .i64 0,.slice none 0 0];have Zv:=bx (Zy.out.far hch (fun k hk=>by have hk:k=gx:=hk;rw[hk];exact⟨Z12 Zh.out,Nat.lt_trans Zc.out Zh.out,Zb.out⟩));have Zt:=bx (HC.out.ch hch (fun e=>by have e:C=gx:=e;have:=Zh.out;omega));have Zu:=bx (Zz.out.setRow #[.int .i64 fa,.int .i64 ((ptxK R.1 fnm).2:Int),.int .i64 0,.slice none 0 0]);clear hch Zy HC Zz;have Zy:=Zv;have HC:=Zt;have Zz:=Zu;clear Zv Zt Zu;refine hK.out _ _ ⟨(HC.out.cell 0).trans rfl,(HC.out.cell 1).trans rfl⟩ ?_;clear hK hP K;refine SeqW.done ?_
           (try simp only[Act.put,Z01,Z02,Z03])
           go_wp2
           go_meet
           exact⟨gx,V1,rfl,Zy,HC,Zz,bx ⟨Zh.out,Zb.out,Wa.out⟩⟩
          ·refine SeqW.run rfl (fun K hK hP=>?_)
           go_wp2_with fail
           have hb:=Y9z (Below.refl y0.heap.size y0) (Z00 _) (.cells #[.int .i64 0,.int .i64 0,.int .i64 0,.slice none 0 0] 43);have Zv:=bx (Zy.out.below hb);have Zt:=bx (HC.out.below hb HC.out.lt);have hnx:=Zy.out.s.fp (Z00 y0.heap.size);have hgx:=Bk.new y0 43 #[.int .i64 0,.int .i64 0,.int .i64 0,.slice none 0 0];have hcl:=HC.out.lt;obtain⟨gx,hg⟩:∃gx,y0.heap.size=gx:=⟨_,rfl⟩;obtain⟨y4,hw⟩:∃y4,y0.alloc (.cells #[.int .i64 0,.int .i64 0,.int .i64 0,.slice none 0 0] 43)=y4:=⟨_,rfl⟩;rw[hg,hw];rw[hw]at Zv Zt hgx;rw[hg]at hgx hnx hcl;have Zh:Bx (C<gx):=bx hcl;have Zz:=bx hgx;have Zb:=bx hnx;clear hb hg hw hcl hgx hnx Zy HC;have Zy:=Zv;have HC:=Zt;clear Zv Zt;refine hK.out _ _ ⟨(HC.out.cell 0).trans rfl,(HC.out.cell 1).trans rfl⟩ ?_;clear hK hP K;refine SeqW.run rfl (fun K hK hP=>?_);go_wp2_with fail
           refine(Y9k w y4 gk gm _ V R.1 fnm Zy.out.s.mkr Gq.out.1 (by have:=Xy.out.1;omega)).mono ?_
           rintro e y5 ⟨V1,rfl,h3,h4⟩;obtain⟨z1,f1⟩:=Zy.out.call h3 h4;have Zv:=bx z1;have Zt:=bx (HC.out.ch f1.ch Wa.out);have Ww:=bx (f1.far HC.out.lt Wa.out);have Zu:=bx (Zz.out.ch f1.ch Zb.out);have Lp:=bx (f1.far Zz.out.lt Zb.out);clear h3 h4 z1 f1 Zy HC Wa Zz Zb;have Zy:=Zv;have HC:=Zt;have Wa:=Ww;have Zz:=Zu;have Zb:=Lp;clear Zv Zt Ww Zu Lp;go_wp2;refine hK.out _ _ ⟨(HC.out.cell 0).trans rfl,(HC.out.cell 1).trans rfl⟩ ?_;clear hK hP K
           iterate 1 (apply SeqW.take;(· rfl);(· (refine Or.inl ⟨?_,?_⟩;(· rfl);(· (intro w hSw;(try dsimp only at hSw);go_simp <;> with_reducible rfl))));simp only[Act.put,Z01,Z02,Z03,Z06,Z04,Z05])
           refine SeqW.run rfl (fun K hK hP=>?_);refine wpList_store_row rfl 43 (.tmp 13) (.tmp 131) rfl gx #[.int .i64 fa,.int .i64 ((ptxK R.1 fnm).2:Int),.int .i64 0,.slice none 0 0] rfl rfl 43 #[.int .i64 0,.int .i64 0,.int .i64 0,.slice none 0 0] Zz.out Y3c rfl (Y5s _ _ _) ?_;refine wpList_nil ?_;have hch:=Y9t y5 gx #[.int .i64 fa,.int .i64 ((ptxK R.1 fnm).2:Int),.int .i64 0,.slice none 0 0];have Zv:=bx (Zy.out.far hch (fun k hk=>by have hk:k=gx:=hk;rw[hk];exact⟨Z12 Zh.out,Nat.lt_trans Zc.out Zh.out,Zb.out⟩));have Zt:=bx (HC.out.ch hch (fun e=>by have e:C=gx:=e;have:=Zh.out;omega));have Zu:=bx (Zz.out.setRow #[.int .i64 fa,.int .i64 ((ptxK R.1 fnm).2:Int),.int .i64 0,.slice none 0 0]);clear hch Zy HC Zz;have Zy:=Zv;have HC:=Zt;have Zz:=Zu;clear Zv Zt Zu;refine hK.out _ _ ⟨(HC.out.cell 0).trans rfl,(HC.out.cell 1).trans rfl⟩ ?_;clear hK hP K;refine SeqW.done ?_
           (try simp only[Act.put,Z01,Z02,Z03])
           go_wp2
           go_meet
           exact⟨gx,V1,rfl,Zy,HC,Zz,bx ⟨Zh.out,Zb.out,Wa.out⟩⟩
          -- REG24F }
          -- DEV}
        case rest=>
        obtain⟨gx,V1,rfl,hZ,hC,hX,hN⟩:=hcut;obtain⟨T1,hT1⟩:∃T1,ptxK R.1 fnm=T1:=⟨_,rfl⟩;have hT1l:=Y8t R.1 fnm;rw[hT1]at hZ hX hT1l;have Tp:=bx hT1;have Zh:Bx (C<gx):=bx hN.out.1;have Pw:=bx hN.out.2.1;have Ww:=bx hN.out.2.2;have Lo:Bx (T1.1.length≤2001):=bx (by have:=Xy.out.1;omega);have Lq:=bx (Y9k w wc gk gm _ V1 T1.1 fds hZ.out.s.mkr Gq.out.2 (by have:=Lo.out;omega));obtain⟨T2,hT2⟩:∃T2,ptxK T1.1 fds=T2:=⟨_,rfl⟩;have hT2l:=Y8t T1.1 fds;rw[hT2]at Lq hT2l;have Se:=bx hT2;have Qw:Bx (T2.1.length≤2002):=bx (by have:=Lo.out;omega);have c2:wc.cell? ⟨C,2,none⟩=some (.string ⟨fds.toArray⟩):=(hC.out.cell 2).trans rfl;clear hT1 hT1l hT2 hT2l hN Zy HC Wa;go_step;go_upto_region 26 with(go_at_call 11;refine Lq.out.mono ?_;rintro e wy ⟨V2,rfl,h3,h4⟩;obtain⟨z1,f1⟩:=hZ.out.call h3 h4;have Zv:=bx z1;have Zt:=bx (hC.out.ch f1.ch Ww.out);have Zu:=bx (hX.out.ch f1.ch Pw.out);have Tg:=bx (f1.far hX.out.lt Pw.out);have Pv:=bx (f1.far hC.out.lt Ww.out);clear h3 h4 z1 f1;have hfx:wy.frozen? ⟨gx,2,none⟩=false:=Zu.out.frz 2;have hcx:wy.cell? ⟨gx,2,none⟩=some (.int .i64 0):=(Zu.out.cell 2).trans rfl;have hlx:=Zu.out.lt)
        have hch:=Y9i wy gx 2 (.int .i64 (T2.2:Int));have Ti:=bx (Zv.out.far hch (fun k hk=>by have hk:k=gx:=hk;rw[hk];exact⟨Z12 Zh.out,Nat.lt_trans Zc.out Zh.out,Tg.out⟩));have Yr:=bx (Zt.out.ch hch (fun e=>by have e:C=gx:=e;have:=Zh.out;omega));have Ss:Bx (Bk (wy.setCell ⟨gx,2,none⟩ (.int .i64 (T2.2:Int))) gx 43 #[.int .i64 fa,.int .i64 (T1.2:Int),.int .i64 (T2.2:Int),.slice none 0 0]):=bx ((Zu.out.set 2 (.int .i64 (T2.2:Int))).trans rfl);clear hch hfx hcx hlx Zv Zt Zu hZ hC hX c2 Lq Pw Ww;generalize wy.setCell ⟨gx,2,none⟩ (.int .i64 (T2.2:Int))=wd at Ti Yr Ss ⊢;have c3:wd.cell? ⟨C,3,none⟩=some (.int .i64 fcn):=(Yr.out.cell 3).trans rfl
        go_upto_if 139 with(fail)
        clear c3
        go_cut [] from 139 to 149 (fun wx=>∃(V3:Value) (P3:List Cst) (x:MmE),Bx (mflK R.1 ⟨fa,fnm,fds,fcn⟩=(P3,[x.p]))∧Bx (MkZ w wx C g1 g2 X gk gm (T.2:Int) (Q.2:Int) V3 I F nilS P3 R1.2 fs [])∧Bx (Bk wx gx 43 #[.int .i64 x.access,.int .i64 x.name,.int .i64 x.desc,.slice x.A x.n x.c])∧Bx (MmX wx (MkB w wx.heap.size gk gm V3 I F nilS) x)∧Bx (¬MkG gk gm V3 I F nilS gx))
        case first=>
         by_cases hc0:fcn=0
         ·have hce:(fcn != 0)=false:=by simp [hc0]
          have Gp:Bx (mflK R.1 ⟨fa,fnm,fds,fcn⟩=(T2.1,[(⟨fa,T1.2,T2.2,none,0,0,[]⟩:MmE).p])):=bx (by
           unfold mflK;dsimp only;rw[if_pos hc0,Tp.out,Se.out]
           rfl)
          have Qv:Bx (MmX wd (MkB w wd.heap.size gk gm V2 I F nilS) ⟨fa,T1.2,T2.2,none,0,0,[]⟩):=bx X6r;rw[hce];clear hce hc0;go_wp2
          go_meet
          case rel=>exact⟨V2,T2.1,⟨fa,T1.2,T2.2,none,0,0,[]⟩,Gp,Ti,Ss,Qv,Tg⟩
         ·have hce:(fcn != 0)=true:=by simp [hc0]
          have Gp:∀(ga:Nat) (A9:Option Addr) (n9 c9:Nat),mflK R.1 ⟨fa,fnm,fds,fcn⟩=((ptxK T2.1 cvN).1,[(⟨fa,T1.2,T2.2,some ⟨ga,0,none⟩,1,1,[⟨(ptxK T2.1 cvN).2,⟨A9,n9,c9,beB 2 fcn⟩⟩]⟩:MmE).p]):=fun ga A9 n9 c9=>by
           unfold mflK;dsimp only;rw[if_neg hc0,Tp.out,Se.out]
           rfl
          have Nj:=bx Gp;rw[hce];clear hce hc0 Gp;go_upto_region 27 with(fail)
          have Tz:=Tg;have Wa:=Pv;have Zy:Bx (MkZ w wd.drew C g1 g2 X gk gm (T.2:Int) (Q.2:Int) V2 I F nilS T2.1 R1.2 fs []):=bx (Ti.out.below (below_drewN (Below.refl wd.heap.size wd) 1));have HC:Bx (Bk wd.drew C 61 #[.int .i64 fa,.string ⟨fnm.toArray⟩,.string ⟨fds.toArray⟩,.int .i64 fcn]):=bx (Yr.out.drewN 1);have Zz:Bx (Bk wd.drew gx 43 #[.int .i64 fa,.int .i64 (T1.2:Int),.int .i64 (T2.2:Int),.slice none 0 0]):=bx (Ss.out.drewN 1);clear Ti Yr Ss Tg Pv
          -- DEV{ r27
          -- REG27 {
          refine Y9x (S:=fun w'=>w'.cell? ⟨C,3,none⟩=some (.int .i64 fcn)) (.tk 0 (.tk 3 (.tk 4 (.alt 1 (.alt 2 (.rn 5 (.rn 6 (.tk 7 (.rn 8 (.tk 9 (.rn 10 .fin)))))) (.alt 5 (.rn 2 (.rn 6 (.tk 7 (.rn 8 (.tk 9 (.rn 10 .fin)))))) .non)) (.alt 2 (.alt 1 (.rn 5 (.rn 6 (.tk 7 (.rn 8 (.tk 9 (.rn 10 .fin)))))) (.alt 5 (.rn 1 (.rn 6 (.tk 7 (.rn 8 (.tk 9 (.rn 10 .fin)))))) .non)) (.alt 5 (.alt 1 (.rn 2 (.rn 6 (.tk 7 (.rn 8 (.tk 9 (.rn 10 .fin)))))) (.alt 2 (.rn 1 (.rn 6 (.tk 7 (.rn 8 (.tk 9 (.rn 10 .fin)))))) .non)) .non)))))) (by kernel_rfl) (by kernel_rfl) (by kernel_rfl) (fun _ _ _ _ h=>h) ((HC.out.cell 3).trans rfl) ?_;generalize wd.drew=y0 at Zy HC Zz ⊢
          iterate 3 (apply SeqW.take;(· rfl);(· (refine Or.inl ⟨?_,?_⟩;(· rfl);(· (intro w hSw;(try dsimp only at hSw);go_simp <;> with_reducible rfl))));simp only[Act.put,Z01,Z02,Z03,Z06,Z04,Z05])
          refine SeqW.both rfl (fun K hK hP=>?_) ?_
          ·go_wp2_with fail
           refine(Y9k w y0 gk gm _ V2 T2.1 cvN Zy.out.s.mkr (by decide) (by have:=Qw.out;omega)).mono ?_
           rintro e y1 ⟨V3,rfl,h3,h4⟩;obtain⟨z1,f1⟩:=Zy.out.call h3 h4;have Zv:=bx z1;have Zt:=bx (HC.out.ch f1.ch Wa.out);have Zu:=bx (Zz.out.ch f1.ch Tz.out);have Wv:=bx (f1.far Zz.out.lt Tz.out);clear h3 h4 z1 f1;clear Zy HC Zz;have Zy:=Zv;have HC:=Zt;have Zz:=Zu;clear Zv Zt Zu;go_wp2;refine hK.out _ _ ((HC.out.cell 3).trans rfl) ?_;clear hK hP K;refine SeqW.both rfl (fun K hK hP=>?_) ?_
           ·go_wp2_with fail
            have hb:=Y9z (Below.refl y1.heap.size y1) (Z00 _) (.cells #[] 5);have Zv:=bx (Zy.out.below hb);have Zt:=bx (HC.out.below hb HC.out.lt);have Zu:=bx (Zz.out.below hb Zz.out.lt);have hnm:=Zy.out.s.fp (Z00 y1.heap.size);have hxl:=Zz.out.lt;have hyl:y1.heap.size<(y1.alloc (.cells #[] 5)).heap.size:=(by simp);have hnw:=OwL.lit0 (f:=bV) (base:=gx+1) (e:=5) y1 Zz.out.lt;obtain⟨gz,hg⟩:∃gz,y1.heap.size=gz:=⟨_,rfl⟩;obtain⟨y2,hw⟩:∃y2,y1.alloc (.cells #[] 5)=y2:=⟨_,rfl⟩;rw[hg,hw];rw[hw]at hnw hyl Zv Zt Zu;rw[hg]at hnw hnm hxl hyl;have Yp:Bx (gx<gz):=bx hxl;clear hb hg hw hxl hyl;clear Zy HC Zz;have Zy:=Zv;have HC:=Zt;have Zz:=Zu;clear Zv Zt Zu;have Wz:=bx hnw;have Xz:=bx hnm;clear hnw hnm;refine hK.out _ _ ((HC.out.cell 3).trans rfl) ?_;clear hK hP K;refine SeqW.run rfl (fun K hK hP=>?_);go_wp2_with fail
            have hb:=Y9z (Below.refl y2.heap.size y2) (Z00 _) (.cells #[.int .i64 fcn] 3);have Zv:=bx (Zy.out.below hb);have Zt:=bx (HC.out.below hb HC.out.lt);have Zu:=bx (Zz.out.below hb Zz.out.lt);have Zl:=bx (Wz.out.below hb);have hnm:=Zy.out.s.fp (Z00 y2.heap.size);have hxl:=Zz.out.lt;have hyl:y2.heap.size<(y2.alloc (.cells #[.int .i64 fcn] 3)).heap.size:=(by simp);have hnw:=RL.top (RL.news y2 [fcn] #[.int .i64 fcn] rfl 3 (0,0));have hol:=(Wz.out.blk (g:=gz)).2;obtain⟨gy,hg⟩:∃gy,y2.heap.size=gy:=⟨_,rfl⟩;obtain⟨y3,hw⟩:∃y3,y2.alloc (.cells #[.int .i64 fcn] 3)=y3:=⟨_,rfl⟩;rw[hg,hw];rw[hw]at hnw hyl Zv Zt Zu Zl;rw[hg]at hnw hnm hxl hyl hol;have Jt:Bx (gx<gy):=bx hxl;have Ln:Bx (gz≠gy):=bx (fun e=>by omega);have Vo:Bx (gy<y3.heap.size):=bx hyl;clear hb hg hw hxl hyl hol;clear Zy HC Zz Wz;have Zy:=Zv;have HC:=Zt;have Zz:=Zu;have Wz:=Zl;clear Zv Zt Zu Zl;have Yo:=bx hnw;have Sm:=bx hnm;have Wg:=Vo;clear Vo;clear hnw hnm;refine hK.out _ _ ((HC.out.cell 3).trans rfl) ?_;clear hK hP K;refine SeqW.run rfl (fun K hK hP=>?_);go_wp2_with fail
            refine(Y8f (gx+1) 2 1 1 (.slice (some ⟨gz,0,none⟩) 0 0) [] (some ⟨gy,0,none⟩) [fcn] y3 Wz.out Zz.out.lt rfl Yo.out (fun _ ad e e2=>by injection e with e;have e2:some gz=some ad.block:=e2;injection e2 with e2;rw[←e]at e2;exact Ln.out e2) (by decide) (by decide) (by decide) (by simp)).mono ?_
            rintro e y4 ⟨v9,rfl,hO,hf⟩;obtain⟨A9,n9,c9,rfl,hq1,hq2⟩:=OwL.sl hO;clear hq1 hq2;rw[Z28,Z27,Z37,Z14]at hO;have Zv:=bx (Zy.out.far hf.ch (fun k e=>by have e:some gz=some k:=e;injection e with e;rw[←e];exact⟨Z12 (Nat.lt_trans Zh.out Yp.out),Nat.lt_trans Zc.out (Nat.lt_trans Zh.out Yp.out),Xz.out⟩));have Zt:=bx (HC.out.ch hf.ch (fun e=>by have e:some gz=some C:=e;injection e with e;have:=Yp.out;have:=Zh.out;omega));have Zu:=bx (Zz.out.ch hf.ch (fun e=>by have e:some gz=some gx:=e;injection e with e;have:=Yp.out;omega))
            have Wl:Bx (∀k,Fow (.slice A9 n9 c9) k→gx<k∧¬MkG gk gm V3 I F nilS k):=bx (fun k e=>by
             rcases hf.ow k e with h | h
             ·have h:some gz=some k:=h
              injection h with h
              rw[←h];exact⟨Yp.out,Xz.out⟩
             ·exact⟨Z07 Zz.out.lt h,Zy.out.s.fp h⟩)
            have Yc:=bx hO;clear hO hf Zy HC Zz Wz Yo;have Zy:=Zv;have HC:=Zt;have Zz:=Zu;clear Zv Zt Zu;go_wp2;refine hK.out _ _ ((HC.out.cell 3).trans rfl) ?_;clear hK hP K
            iterate 1 (apply SeqW.take;(· rfl);(· (refine Or.inl ⟨?_,?_⟩;(· rfl);(· (intro w hSw;(try dsimp only at hSw);go_simp <;> with_reducible rfl))));simp only[Act.put,Z01,Z02,Z03,Z06,Z04,Z05])
            refine SeqW.run rfl (fun K hK hP=>?_);go_wp2_with fail
            have hb:=Y9z (Below.refl y4.heap.size y4) (Z00 _) (.cells #[.int .i64 ((ptxK T2.1 cvN).2:Int),.slice A9 n9 c9] 41);have Zv:=bx (Zy.out.below hb);have Zt:=bx (HC.out.below hb HC.out.lt);have Zu:=bx (Zz.out.below hb Zz.out.lt);have Yb:=bx (Yc.out.below hb);have hka:=Bk.new y4 41 #[.int .i64 ((ptxK T2.1 cvN).2:Int),.slice A9 n9 c9];have hnm:=Zy.out.s.fp (Z00 y4.heap.size);have hxl:=Zz.out.lt;obtain⟨ga,hg⟩:∃ga,y4.heap.size=ga:=⟨_,rfl⟩;obtain⟨y5,hw⟩:∃y5,y4.alloc (.cells #[.int .i64 ((ptxK T2.1 cvN).2:Int),.slice A9 n9 c9] 41)=y5:=⟨_,rfl⟩;rw[hg,hw];rw[hw]at Zv Zt Zu Yb hka;rw[hg]at hka hnm hxl;have Ys:=bx hka;have Sr:=bx hnm;have Xw:Bx (gx<ga):=bx hxl;clear hb hg hw hnm hxl hka Zy HC Zz Yc;have Zy:=Zv;have HC:=Zt;have Zz:=Zu;have Yc:=Yb;clear Zv Zt Zu Yb;refine hK.out _ _ ((HC.out.cell 3).trans rfl) ?_;clear hK hP K
            iterate 1 (apply SeqW.take;(· rfl);(· (refine Or.inl ⟨?_,?_⟩;(· rfl);(· (intro w hSw;(try dsimp only at hSw);go_simp <;> with_reducible rfl))));simp only[Act.put,Z01,Z02,Z03,Z06,Z04,Z05])
            refine SeqW.run rfl (fun K hK hP=>?_);have hf3:y5.frozen? ⟨gx,3,none⟩=false:=Zz.out.frz 3;have hlx:=Zz.out.lt;have hc3:y5.cell? ⟨gx,3,none⟩=some (.slice none 0 0):=(Zz.out.cell 3).trans rfl;go_wp2_with fail
            have hch:=Y9i y5 gx 3 (.slice (some ⟨ga,0,none⟩) 1 1);have Zv:=bx (Zy.out.far hch (fun k hk=>by have hk:k=gx:=hk;rw[hk];exact⟨Z12 Zh.out,Nat.lt_trans Zc.out Zh.out,Wv.out⟩));have Zt:=bx (HC.out.ch hch (fun e=>by have e:C=gx:=e;have:=Zh.out;omega));have Zu:=bx ((Zz.out.set 3 (.slice (some ⟨ga,0,none⟩) 1 1)).trans rfl);have Yb:=bx (OwL.ch Yc.out hch (fun k e e2=>by have e2:k=gx:=e2;have:=(Wl.out k e).1;omega));have Vs:=bx (Ys.out.ch hch (fun e=>by have e:ga=gx:=e;have:=Xw.out;omega));clear hch hf3 hlx hc3 Zy HC Zz Yc Ys;have Zy:=Zv;have HC:=Zt;have Zz:=Zu;have Yc:=Yb;have Ys:=Vs;clear Zv Zt Zu Yb Vs;refine hK.out _ _ ((HC.out.cell 3).trans rfl) ?_;clear hK hP K;refine SeqW.done ?_;have hmm:=Y4z (X:=MkB w _ gk gm V3 I F nilS) (a:=fa) (b:=T1.2) (d:=T2.2) Ys.out ⟨⟨Z08 Zy.out.e.lo.1 (Z12 (Nat.lt_trans Zy.out.e.lo.2 (Nat.lt_trans Zc.out (Nat.lt_trans Zh.out Xw.out)))),Nat.lt_trans Vv.out (Nat.lt_trans Zh.out Xw.out)⟩,Ys.out.lt,Sr.out⟩ Yc.out (fun k e=>⟨⟨by have:=(Wl.out k e).1;have:=Zy.out.e.lo;have:=Zc.out;have:=Zh.out;omega,by have:=(Wl.out k e).1;have:=Vv.out;have:=Zh.out;omega⟩,(World.ownsRow.lt Yc.out k e).2,(Wl.out k e).2⟩);have Qv:=bx hmm;clear hmm
            (try simp only[Act.put,Z01,Z02,Z03])
            go_wp2
            go_meet
            exact⟨V3,(ptxK T2.1 cvN).1,⟨fa,T1.2,T2.2,some ⟨ga,0,none⟩,1,1,[⟨(ptxK T2.1 cvN).2,⟨A9,n9,c9,beB 2 fcn⟩⟩]⟩,bx (Nj.out ga A9 n9 c9),Zy,Zz,Qv,Wv⟩
           ·refine SeqW.run rfl (fun K hK hP=>?_)
            go_wp2_with fail
            have hb:=Y9z (Below.refl y1.heap.size y1) (Z00 _) (.cells #[.int .i64 fcn] 3);have Zv:=bx (Zy.out.below hb);have Zt:=bx (HC.out.below hb HC.out.lt);have Zu:=bx (Zz.out.below hb Zz.out.lt);have hnm:=Zy.out.s.fp (Z00 y1.heap.size);have hxl:=Zz.out.lt;have hyl:y1.heap.size<(y1.alloc (.cells #[.int .i64 fcn] 3)).heap.size:=(by simp);have hnw:=RL.top (RL.news y1 [fcn] #[.int .i64 fcn] rfl 3 (0,0));obtain⟨gy,hg⟩:∃gy,y1.heap.size=gy:=⟨_,rfl⟩;obtain⟨y7,hw⟩:∃y7,y1.alloc (.cells #[.int .i64 fcn] 3)=y7:=⟨_,rfl⟩;rw[hg,hw];rw[hw]at hnw hyl Zv Zt Zu;rw[hg]at hnw hnm hxl hyl;have Jt:Bx (gx<gy):=bx hxl;have Vo:Bx (gy<y7.heap.size):=bx hyl;clear hb hg hw hxl hyl;clear Zy HC Zz;have Zy:=Zv;have HC:=Zt;have Zz:=Zu;clear Zv Zt Zu;have Yo:=bx hnw;have Sm:=bx hnm;have Wg:=Vo;clear Vo;clear hnw hnm;refine hK.out _ _ ((HC.out.cell 3).trans rfl) ?_;clear hK hP K;refine SeqW.run rfl (fun K hK hP=>?_);go_wp2_with fail
            have hb:=Y9z (Below.refl y7.heap.size y7) (Z00 _) (.cells #[] 5);have Zv:=bx (Zy.out.below hb);have Zt:=bx (HC.out.below hb HC.out.lt);have Zu:=bx (Zz.out.below hb Zz.out.lt);have Tx:=bx (RL.step Yo.out hb);have Xb:=bx (Z07 Wg.out (hb).size);have hnm:=Zy.out.s.fp (Z00 y7.heap.size);have hxl:=Zz.out.lt;have hyl:y7.heap.size<(y7.alloc (.cells #[] 5)).heap.size:=(by simp);have hnw:=OwL.lit0 (f:=bV) (base:=gx+1) (e:=5) y7 Zz.out.lt;have hol:=Wg.out;obtain⟨gz,hg⟩:∃gz,y7.heap.size=gz:=⟨_,rfl⟩;obtain⟨y8,hw⟩:∃y8,y7.alloc (.cells #[] 5)=y8:=⟨_,rfl⟩;rw[hg,hw];rw[hw]at hnw hyl Zv Zt Zu Tx Xb;rw[hg]at hnw hnm hxl hyl hol;have Yp:Bx (gx<gz):=bx hxl;have Ln:Bx (gz≠gy):=bx (fun e=>by omega);clear hb hg hw hxl hyl hol;clear Zy HC Zz Yo Wg;have Zy:=Zv;have HC:=Zt;have Zz:=Zu;have Yo:=Tx;have Wg:=Xb;clear Zv Zt Zu Tx Xb;have Wz:=bx hnw;have Xz:=bx hnm;clear hnw hnm;refine hK.out _ _ ((HC.out.cell 3).trans rfl) ?_;clear hK hP K;refine SeqW.run rfl (fun K hK hP=>?_);go_wp2_with fail
            refine(Y8f (gx+1) 2 1 1 (.slice (some ⟨gz,0,none⟩) 0 0) [] (some ⟨gy,0,none⟩) [fcn] y8 Wz.out Zz.out.lt rfl Yo.out (fun _ ad e e2=>by injection e with e;have e2:some gz=some ad.block:=e2;injection e2 with e2;rw[←e]at e2;exact Ln.out e2) (by decide) (by decide) (by decide) (by simp)).mono ?_
            rintro e y9 ⟨v9,rfl,hO,hf⟩;obtain⟨A9,n9,c9,rfl,hq1,hq2⟩:=OwL.sl hO;clear hq1 hq2;rw[Z28,Z27,Z37,Z14]at hO;have Zv:=bx (Zy.out.far hf.ch (fun k e=>by have e:some gz=some k:=e;injection e with e;rw[←e];exact⟨Z12 (Nat.lt_trans Zh.out Yp.out),Nat.lt_trans Zc.out (Nat.lt_trans Zh.out Yp.out),Xz.out⟩));have Zt:=bx (HC.out.ch hf.ch (fun e=>by have e:some gz=some C:=e;injection e with e;have:=Yp.out;have:=Zh.out;omega));have Zu:=bx (Zz.out.ch hf.ch (fun e=>by have e:some gz=some gx:=e;injection e with e;have:=Yp.out;omega))
            have Wl:Bx (∀k,Fow (.slice A9 n9 c9) k→gx<k∧¬MkG gk gm V3 I F nilS k):=bx (fun k e=>by
             rcases hf.ow k e with h | h
             ·have h:some gz=some k:=h
              injection h with h
              rw[←h];exact⟨Yp.out,Xz.out⟩
             ·exact⟨Z07 Zz.out.lt h,Zy.out.s.fp h⟩)
            have Yc:=bx hO;clear hO hf Zy HC Zz Wz Yo;have Zy:=Zv;have HC:=Zt;have Zz:=Zu;clear Zv Zt Zu;go_wp2;refine hK.out _ _ ((HC.out.cell 3).trans rfl) ?_;clear hK hP K
            iterate 1 (apply SeqW.take;(· rfl);(· (refine Or.inl ⟨?_,?_⟩;(· rfl);(· (intro w hSw;(try dsimp only at hSw);go_simp <;> with_reducible rfl))));simp only[Act.put,Z01,Z02,Z03,Z06,Z04,Z05])
            refine SeqW.run rfl (fun K hK hP=>?_);go_wp2_with fail
            have hb:=Y9z (Below.refl y9.heap.size y9) (Z00 _) (.cells #[.int .i64 ((ptxK T2.1 cvN).2:Int),.slice A9 n9 c9] 41);have Zv:=bx (Zy.out.below hb);have Zt:=bx (HC.out.below hb HC.out.lt);have Zu:=bx (Zz.out.below hb Zz.out.lt);have Yb:=bx (Yc.out.below hb);have hka:=Bk.new y9 41 #[.int .i64 ((ptxK T2.1 cvN).2:Int),.slice A9 n9 c9];have hnm:=Zy.out.s.fp (Z00 y9.heap.size);have hxl:=Zz.out.lt;obtain⟨ga,hg⟩:∃ga,y9.heap.size=ga:=⟨_,rfl⟩;obtain⟨y10,hw⟩:∃y10,y9.alloc (.cells #[.int .i64 ((ptxK T2.1 cvN).2:Int),.slice A9 n9 c9] 41)=y10:=⟨_,rfl⟩;rw[hg,hw];rw[hw]at Zv Zt Zu Yb hka;rw[hg]at hka hnm hxl;have Ys:=bx hka;have Sr:=bx hnm;have Xw:Bx (gx<ga):=bx hxl;clear hb hg hw hnm hxl hka Zy HC Zz Yc;have Zy:=Zv;have HC:=Zt;have Zz:=Zu;have Yc:=Yb;clear Zv Zt Zu Yb;refine hK.out _ _ ((HC.out.cell 3).trans rfl) ?_;clear hK hP K
            iterate 1 (apply SeqW.take;(· rfl);(· (refine Or.inl ⟨?_,?_⟩;(· rfl);(· (intro w hSw;(try dsimp only at hSw);go_simp <;> with_reducible rfl))));simp only[Act.put,Z01,Z02,Z03,Z06,Z04,Z05])
            refine SeqW.run rfl (fun K hK hP=>?_);have hf3:y10.frozen? ⟨gx,3,none⟩=false:=Zz.out.frz 3;have hlx:=Zz.out.lt;have hc3:y10.cell? ⟨gx,3,none⟩=some (.slice none 0 0):=(Zz.out.cell 3).trans rfl;go_wp2_with fail
            have hch:=Y9i y10 gx 3 (.slice (some ⟨ga,0,none⟩) 1 1);have Zv:=bx (Zy.out.far hch (fun k hk=>by have hk:k=gx:=hk;rw[hk];exact⟨Z12 Zh.out,Nat.lt_trans Zc.out Zh.out,Wv.out⟩));have Zt:=bx (HC.out.ch hch (fun e=>by have e:C=gx:=e;have:=Zh.out;omega));have Zu:=bx ((Zz.out.set 3 (.slice (some ⟨ga,0,none⟩) 1 1)).trans rfl);have Yb:=bx (OwL.ch Yc.out hch (fun k e e2=>by have e2:k=gx:=e2;have:=(Wl.out k e).1;omega));have Vs:=bx (Ys.out.ch hch (fun e=>by have e:ga=gx:=e;have:=Xw.out;omega));clear hch hf3 hlx hc3 Zy HC Zz Yc Ys;have Zy:=Zv;have HC:=Zt;have Zz:=Zu;have Yc:=Yb;have Ys:=Vs;clear Zv Zt Zu Yb Vs;refine hK.out _ _ ((HC.out.cell 3).trans rfl) ?_;clear hK hP K;refine SeqW.done ?_;have hmm:=Y4z (X:=MkB w _ gk gm V3 I F nilS) (a:=fa) (b:=T1.2) (d:=T2.2) Ys.out ⟨⟨Z08 Zy.out.e.lo.1 (Z12 (Nat.lt_trans Zy.out.e.lo.2 (Nat.lt_trans Zc.out (Nat.lt_trans Zh.out Xw.out)))),Nat.lt_trans Vv.out (Nat.lt_trans Zh.out Xw.out)⟩,Ys.out.lt,Sr.out⟩ Yc.out (fun k e=>⟨⟨by have:=(Wl.out k e).1;have:=Zy.out.e.lo;have:=Zc.out;have:=Zh.out;omega,by have:=(Wl.out k e).1;have:=Vv.out;have:=Zh.out;omega⟩,(World.ownsRow.lt Yc.out k e).2,(Wl.out k e).2⟩);have Qv:=bx hmm;clear hmm
            (try simp only[Act.put,Z01,Z02,Z03])
            go_wp2
            go_meet
            exact⟨V3,(ptxK T2.1 cvN).1,⟨fa,T1.2,T2.2,some ⟨ga,0,none⟩,1,1,[⟨(ptxK T2.1 cvN).2,⟨A9,n9,c9,beB 2 fcn⟩⟩]⟩,bx (Nj.out ga A9 n9 c9),Zy,Zz,Qv,Wv⟩
          ·refine SeqW.both rfl (fun K hK hP=>?_) ?_
           ·go_wp2_with fail
            have hb:=Y9z (Below.refl y0.heap.size y0) (Z00 _) (.cells #[] 5);have Zv:=bx (Zy.out.below hb);have Zt:=bx (HC.out.below hb HC.out.lt);have Zu:=bx (Zz.out.below hb Zz.out.lt);have hnm:=Zy.out.s.fp (Z00 y0.heap.size);have hxl:=Zz.out.lt;have hyl:y0.heap.size<(y0.alloc (.cells #[] 5)).heap.size:=(by simp);have hnw:=OwL.lit0 (f:=bV) (base:=gx+1) (e:=5) y0 Zz.out.lt;obtain⟨gz,hg⟩:∃gz,y0.heap.size=gz:=⟨_,rfl⟩;obtain⟨y12,hw⟩:∃y12,y0.alloc (.cells #[] 5)=y12:=⟨_,rfl⟩;rw[hg,hw];rw[hw]at hnw hyl Zv Zt Zu;rw[hg]at hnw hnm hxl hyl;have Yp:Bx (gx<gz):=bx hxl;clear hb hg hw hxl hyl;clear Zy HC Zz;have Zy:=Zv;have HC:=Zt;have Zz:=Zu;clear Zv Zt Zu;have Wz:=bx hnw;have Xz:=bx hnm;clear hnw hnm;refine hK.out _ _ ((HC.out.cell 3).trans rfl) ?_;clear hK hP K;refine SeqW.both rfl (fun K hK hP=>?_) ?_
            ·go_wp2_with fail
             refine(Y9k w y12 gk gm _ V2 T2.1 cvN Zy.out.s.mkr (by decide) (by have:=Qw.out;omega)).mono ?_
             rintro e y13 ⟨V3,rfl,h3,h4⟩;obtain⟨z1,f1⟩:=Zy.out.call h3 h4;have Zv:=bx z1;have Zt:=bx (HC.out.ch f1.ch Wa.out);have Zu:=bx (Zz.out.ch f1.ch Tz.out);have Wv:=bx (f1.far Zz.out.lt Tz.out);have Zl:=bx (OwL.ch Wz.out f1.ch (fun k e=>by have e:some gz=some k:=e;injection e with e;rw[←e];exact Xz.out));have Qu:=bx (f1.far (Wz.out.blk (g:=gz)).2 Xz.out);clear h3 h4 z1 f1 Xz;clear Zy HC Zz Wz;have Zy:=Zv;have HC:=Zt;have Zz:=Zu;have Wz:=Zl;clear Zv Zt Zu Zl;have Xz:=Qu;clear Qu;go_wp2;refine hK.out _ _ ((HC.out.cell 3).trans rfl) ?_;clear hK hP K;refine SeqW.run rfl (fun K hK hP=>?_);go_wp2_with fail
             have hb:=Y9z (Below.refl y13.heap.size y13) (Z00 _) (.cells #[.int .i64 fcn] 3);have Zv:=bx (Zy.out.below hb);have Zt:=bx (HC.out.below hb HC.out.lt);have Zu:=bx (Zz.out.below hb Zz.out.lt);have Zl:=bx (Wz.out.below hb);have hnm:=Zy.out.s.fp (Z00 y13.heap.size);have hxl:=Zz.out.lt;have hyl:y13.heap.size<(y13.alloc (.cells #[.int .i64 fcn] 3)).heap.size:=(by simp);have hnw:=RL.top (RL.news y13 [fcn] #[.int .i64 fcn] rfl 3 (0,0));have hol:=(Wz.out.blk (g:=gz)).2;obtain⟨gy,hg⟩:∃gy,y13.heap.size=gy:=⟨_,rfl⟩;obtain⟨y14,hw⟩:∃y14,y13.alloc (.cells #[.int .i64 fcn] 3)=y14:=⟨_,rfl⟩;rw[hg,hw];rw[hw]at hnw hyl Zv Zt Zu Zl;rw[hg]at hnw hnm hxl hyl hol;have Jt:Bx (gx<gy):=bx hxl;have Ln:Bx (gz≠gy):=bx (fun e=>by omega);have Vo:Bx (gy<y14.heap.size):=bx hyl;clear hb hg hw hxl hyl hol;clear Zy HC Zz Wz;have Zy:=Zv;have HC:=Zt;have Zz:=Zu;have Wz:=Zl;clear Zv Zt Zu Zl;have Yo:=bx hnw;have Sm:=bx hnm;have Wg:=Vo;clear Vo;clear hnw hnm;refine hK.out _ _ ((HC.out.cell 3).trans rfl) ?_;clear hK hP K;refine SeqW.run rfl (fun K hK hP=>?_);go_wp2_with fail
             refine(Y8f (gx+1) 2 1 1 (.slice (some ⟨gz,0,none⟩) 0 0) [] (some ⟨gy,0,none⟩) [fcn] y14 Wz.out Zz.out.lt rfl Yo.out (fun _ ad e e2=>by injection e with e;have e2:some gz=some ad.block:=e2;injection e2 with e2;rw[←e]at e2;exact Ln.out e2) (by decide) (by decide) (by decide) (by simp)).mono ?_
             rintro e y15 ⟨v9,rfl,hO,hf⟩;obtain⟨A9,n9,c9,rfl,hq1,hq2⟩:=OwL.sl hO;clear hq1 hq2;rw[Z28,Z27,Z37,Z14]at hO;have Zv:=bx (Zy.out.far hf.ch (fun k e=>by have e:some gz=some k:=e;injection e with e;rw[←e];exact⟨Z12 (Nat.lt_trans Zh.out Yp.out),Nat.lt_trans Zc.out (Nat.lt_trans Zh.out Yp.out),Xz.out⟩));have Zt:=bx (HC.out.ch hf.ch (fun e=>by have e:some gz=some C:=e;injection e with e;have:=Yp.out;have:=Zh.out;omega));have Zu:=bx (Zz.out.ch hf.ch (fun e=>by have e:some gz=some gx:=e;injection e with e;have:=Yp.out;omega))
             have Wl:Bx (∀k,Fow (.slice A9 n9 c9) k→gx<k∧¬MkG gk gm V3 I F nilS k):=bx (fun k e=>by
              rcases hf.ow k e with h | h
              ·have h:some gz=some k:=h
               injection h with h
               rw[←h];exact⟨Yp.out,Xz.out⟩
              ·exact⟨Z07 Zz.out.lt h,Zy.out.s.fp h⟩)
             have Yc:=bx hO;clear hO hf Zy HC Zz Wz Yo;have Zy:=Zv;have HC:=Zt;have Zz:=Zu;clear Zv Zt Zu;go_wp2;refine hK.out _ _ ((HC.out.cell 3).trans rfl) ?_;clear hK hP K
             iterate 1 (apply SeqW.take;(· rfl);(· (refine Or.inl ⟨?_,?_⟩;(· rfl);(· (intro w hSw;(try dsimp only at hSw);go_simp <;> with_reducible rfl))));simp only[Act.put,Z01,Z02,Z03,Z06,Z04,Z05])
             refine SeqW.run rfl (fun K hK hP=>?_);go_wp2_with fail
             have hb:=Y9z (Below.refl y15.heap.size y15) (Z00 _) (.cells #[.int .i64 ((ptxK T2.1 cvN).2:Int),.slice A9 n9 c9] 41);have Zv:=bx (Zy.out.below hb);have Zt:=bx (HC.out.below hb HC.out.lt);have Zu:=bx (Zz.out.below hb Zz.out.lt);have Yb:=bx (Yc.out.below hb);have hka:=Bk.new y15 41 #[.int .i64 ((ptxK T2.1 cvN).2:Int),.slice A9 n9 c9];have hnm:=Zy.out.s.fp (Z00 y15.heap.size);have hxl:=Zz.out.lt;obtain⟨ga,hg⟩:∃ga,y15.heap.size=ga:=⟨_,rfl⟩;obtain⟨y16,hw⟩:∃y16,y15.alloc (.cells #[.int .i64 ((ptxK T2.1 cvN).2:Int),.slice A9 n9 c9] 41)=y16:=⟨_,rfl⟩;rw[hg,hw];rw[hw]at Zv Zt Zu Yb hka;rw[hg]at hka hnm hxl;have Ys:=bx hka;have Sr:=bx hnm;have Xw:Bx (gx<ga):=bx hxl;clear hb hg hw hnm hxl hka Zy HC Zz Yc;have Zy:=Zv;have HC:=Zt;have Zz:=Zu;have Yc:=Yb;clear Zv Zt Zu Yb;refine hK.out _ _ ((HC.out.cell 3).trans rfl) ?_;clear hK hP K
             iterate 1 (apply SeqW.take;(· rfl);(· (refine Or.inl ⟨?_,?_⟩;(· rfl);(· (intro w hSw;(try dsimp only at hSw);go_simp <;> with_reducible rfl))));simp only[Act.put,Z01,Z02,Z03,Z06,Z04,Z05])
             refine SeqW.run rfl (fun K hK hP=>?_);have hf3:y16.frozen? ⟨gx,3,none⟩=false:=Zz.out.frz 3;have hlx:=Zz.out.lt;have hc3:y16.cell? ⟨gx,3,none⟩=some (.slice none 0 0):=(Zz.out.cell 3).trans rfl;go_wp2_with fail
             have hch:=Y9i y16 gx 3 (.slice (some ⟨ga,0,none⟩) 1 1);have Zv:=bx (Zy.out.far hch (fun k hk=>by have hk:k=gx:=hk;rw[hk];exact⟨Z12 Zh.out,Nat.lt_trans Zc.out Zh.out,Wv.out⟩));have Zt:=bx (HC.out.ch hch (fun e=>by have e:C=gx:=e;have:=Zh.out;omega));have Zu:=bx ((Zz.out.set 3 (.slice (some ⟨ga,0,none⟩) 1 1)).trans rfl);have Yb:=bx (OwL.ch Yc.out hch (fun k e e2=>by have e2:k=gx:=e2;have:=(Wl.out k e).1;omega));have Vs:=bx (Ys.out.ch hch (fun e=>by have e:ga=gx:=e;have:=Xw.out;omega));clear hch hf3 hlx hc3 Zy HC Zz Yc Ys;have Zy:=Zv;have HC:=Zt;have Zz:=Zu;have Yc:=Yb;have Ys:=Vs;clear Zv Zt Zu Yb Vs;refine hK.out _ _ ((HC.out.cell 3).trans rfl) ?_;clear hK hP K;refine SeqW.done ?_;have hmm:=Y4z (X:=MkB w _ gk gm V3 I F nilS) (a:=fa) (b:=T1.2) (d:=T2.2) Ys.out ⟨⟨Z08 Zy.out.e.lo.1 (Z12 (Nat.lt_trans Zy.out.e.lo.2 (Nat.lt_trans Zc.out (Nat.lt_trans Zh.out Xw.out)))),Nat.lt_trans Vv.out (Nat.lt_trans Zh.out Xw.out)⟩,Ys.out.lt,Sr.out⟩ Yc.out (fun k e=>⟨⟨by have:=(Wl.out k e).1;have:=Zy.out.e.lo;have:=Zc.out;have:=Zh.out;omega,by have:=(Wl.out k e).1;have:=Vv.out;have:=Zh.out;omega⟩,(World.ownsRow.lt Yc.out k e).2,(Wl.out k e).2⟩);have Qv:=bx hmm;clear hmm
             (try simp only[Act.put,Z01,Z02,Z03])
             go_wp2
             go_meet
             exact⟨V3,(ptxK T2.1 cvN).1,⟨fa,T1.2,T2.2,some ⟨ga,0,none⟩,1,1,[⟨(ptxK T2.1 cvN).2,⟨A9,n9,c9,beB 2 fcn⟩⟩]⟩,bx (Nj.out ga A9 n9 c9),Zy,Zz,Qv,Wv⟩
            ·refine SeqW.run rfl (fun K hK hP=>?_)
             go_wp2_with fail
             have hb:=Y9z (Below.refl y12.heap.size y12) (Z00 _) (.cells #[.int .i64 fcn] 3);have Zv:=bx (Zy.out.below hb);have Zt:=bx (HC.out.below hb HC.out.lt);have Zu:=bx (Zz.out.below hb Zz.out.lt);have Zl:=bx (Wz.out.below hb);have hnm:=Zy.out.s.fp (Z00 y12.heap.size);have hxl:=Zz.out.lt;have hyl:y12.heap.size<(y12.alloc (.cells #[.int .i64 fcn] 3)).heap.size:=(by simp);have hnw:=RL.top (RL.news y12 [fcn] #[.int .i64 fcn] rfl 3 (0,0));have hol:=(Wz.out.blk (g:=gz)).2;obtain⟨gy,hg⟩:∃gy,y12.heap.size=gy:=⟨_,rfl⟩;obtain⟨y18,hw⟩:∃y18,y12.alloc (.cells #[.int .i64 fcn] 3)=y18:=⟨_,rfl⟩;rw[hg,hw];rw[hw]at hnw hyl Zv Zt Zu Zl;rw[hg]at hnw hnm hxl hyl hol;have Jt:Bx (gx<gy):=bx hxl;have Ln:Bx (gz≠gy):=bx (fun e=>by omega);have Vo:Bx (gy<y18.heap.size):=bx hyl;clear hb hg hw hxl hyl hol;clear Zy HC Zz Wz;have Zy:=Zv;have HC:=Zt;have Zz:=Zu;have Wz:=Zl;clear Zv Zt Zu Zl;have Yo:=bx hnw;have Sm:=bx hnm;have Wg:=Vo;clear Vo;clear hnw hnm;refine hK.out _ _ ((HC.out.cell 3).trans rfl) ?_;clear hK hP K;refine SeqW.run rfl (fun K hK hP=>?_);go_wp2_with fail
             refine(Y9k w y18 gk gm _ V2 T2.1 cvN Zy.out.s.mkr (by decide) (by have:=Qw.out;omega)).mono ?_
             rintro e y19 ⟨V3,rfl,h3,h4⟩;obtain⟨z1,f1⟩:=Zy.out.call h3 h4;have Zv:=bx z1;have Zt:=bx (HC.out.ch f1.ch Wa.out);have Zu:=bx (Zz.out.ch f1.ch Tz.out);have Wv:=bx (f1.far Zz.out.lt Tz.out);have Zl:=bx (OwL.ch Wz.out f1.ch (fun k e=>by have e:some gz=some k:=e;injection e with e;rw[←e];exact Xz.out));have Qu:=bx (f1.far (Wz.out.blk (g:=gz)).2 Xz.out);have Tx:=bx (RL.top (RL.ch Yo.out f1.ch (Z00 _) (fun ad e=>by injection e with e;rw[←e];exact Sm.out)));have Xb:=bx (Z07 Wg.out f1.ch.size);clear h3 h4 z1 f1 Xz Sm;clear Zy HC Zz Wz Yo Wg;have Zy:=Zv;have HC:=Zt;have Zz:=Zu;have Wz:=Zl;have Yo:=Tx;have Wg:=Xb;clear Zv Zt Zu Zl Tx Xb;have Xz:=Qu;clear Qu;go_wp2;refine hK.out _ _ ((HC.out.cell 3).trans rfl) ?_;clear hK hP K;refine SeqW.run rfl (fun K hK hP=>?_);go_wp2_with fail
             refine(Y8f (gx+1) 2 1 1 (.slice (some ⟨gz,0,none⟩) 0 0) [] (some ⟨gy,0,none⟩) [fcn] y19 Wz.out Zz.out.lt rfl Yo.out (fun _ ad e e2=>by injection e with e;have e2:some gz=some ad.block:=e2;injection e2 with e2;rw[←e]at e2;exact Ln.out e2) (by decide) (by decide) (by decide) (by simp)).mono ?_
             rintro e y20 ⟨v9,rfl,hO,hf⟩;obtain⟨A9,n9,c9,rfl,hq1,hq2⟩:=OwL.sl hO;clear hq1 hq2;rw[Z28,Z27,Z37,Z14]at hO;have Zv:=bx (Zy.out.far hf.ch (fun k e=>by have e:some gz=some k:=e;injection e with e;rw[←e];exact⟨Z12 (Nat.lt_trans Zh.out Yp.out),Nat.lt_trans Zc.out (Nat.lt_trans Zh.out Yp.out),Xz.out⟩));have Zt:=bx (HC.out.ch hf.ch (fun e=>by have e:some gz=some C:=e;injection e with e;have:=Yp.out;have:=Zh.out;omega));have Zu:=bx (Zz.out.ch hf.ch (fun e=>by have e:some gz=some gx:=e;injection e with e;have:=Yp.out;omega))
             have Wl:Bx (∀k,Fow (.slice A9 n9 c9) k→gx<k∧¬MkG gk gm V3 I F nilS k):=bx (fun k e=>by
              rcases hf.ow k e with h | h
              ·have h:some gz=some k:=h
               injection h with h
               rw[←h];exact⟨Yp.out,Xz.out⟩
              ·exact⟨Z07 Zz.out.lt h,Zy.out.s.fp h⟩)
             have Yc:=bx hO;clear hO hf Zy HC Zz Wz Yo;have Zy:=Zv;have HC:=Zt;have Zz:=Zu;clear Zv Zt Zu;go_wp2;refine hK.out _ _ ((HC.out.cell 3).trans rfl) ?_;clear hK hP K
             iterate 1 (apply SeqW.take;(· rfl);(· (refine Or.inl ⟨?_,?_⟩;(· rfl);(· (intro w hSw;(try dsimp only at hSw);go_simp <;> with_reducible rfl))));simp only[Act.put,Z01,Z02,Z03,Z06,Z04,Z05])
             refine SeqW.run rfl (fun K hK hP=>?_);go_wp2_with fail
             have hb:=Y9z (Below.refl y20.heap.size y20) (Z00 _) (.cells #[.int .i64 ((ptxK T2.1 cvN).2:Int),.slice A9 n9 c9] 41);have Zv:=bx (Zy.out.below hb);have Zt:=bx (HC.out.below hb HC.out.lt);have Zu:=bx (Zz.out.below hb Zz.out.lt);have Yb:=bx (Yc.out.below hb);have hka:=Bk.new y20 41 #[.int .i64 ((ptxK T2.1 cvN).2:Int),.slice A9 n9 c9];have hnm:=Zy.out.s.fp (Z00 y20.heap.size);have hxl:=Zz.out.lt;obtain⟨ga,hg⟩:∃ga,y20.heap.size=ga:=⟨_,rfl⟩;obtain⟨y21,hw⟩:∃y21,y20.alloc (.cells #[.int .i64 ((ptxK T2.1 cvN).2:Int),.slice A9 n9 c9] 41)=y21:=⟨_,rfl⟩;rw[hg,hw];rw[hw]at Zv Zt Zu Yb hka;rw[hg]at hka hnm hxl;have Ys:=bx hka;have Sr:=bx hnm;have Xw:Bx (gx<ga):=bx hxl;clear hb hg hw hnm hxl hka Zy HC Zz Yc;have Zy:=Zv;have HC:=Zt;have Zz:=Zu;have Yc:=Yb;clear Zv Zt Zu Yb;refine hK.out _ _ ((HC.out.cell 3).trans rfl) ?_;clear hK hP K
             iterate 1 (apply SeqW.take;(· rfl);(· (refine Or.inl ⟨?_,?_⟩;(· rfl);(· (intro w hSw;(try dsimp only at hSw);go_simp <;> with_reducible rfl))));simp only[Act.put,Z01,Z02,Z03,Z06,Z04,Z05])
             refine SeqW.run rfl (fun K hK hP=>?_);have hf3:y21.frozen? ⟨gx,3,none⟩=false:=Zz.out.frz 3;have hlx:=Zz.out.lt;have hc3:y21.cell? ⟨gx,3,none⟩=some (.slice none 0 0):=(Zz.out.cell 3).trans rfl;go_wp2_with fail
             have hch:=Y9i y21 gx 3 (.slice (some ⟨ga,0,none⟩) 1 1);have Zv:=bx (Zy.out.far hch (fun k hk=>by have hk:k=gx:=hk;rw[hk];exact⟨Z12 Zh.out,Nat.lt_trans Zc.out Zh.out,Wv.out⟩));have Zt:=bx (HC.out.ch hch (fun e=>by have e:C=gx:=e;have:=Zh.out;omega));have Zu:=bx ((Zz.out.set 3 (.slice (some ⟨ga,0,none⟩) 1 1)).trans rfl);have Yb:=bx (OwL.ch Yc.out hch (fun k e e2=>by have e2:k=gx:=e2;have:=(Wl.out k e).1;omega));have Vs:=bx (Ys.out.ch hch (fun e=>by have e:ga=gx:=e;have:=Xw.out;omega));clear hch hf3 hlx hc3 Zy HC Zz Yc Ys;have Zy:=Zv;have HC:=Zt;have Zz:=Zu;have Yc:=Yb;have Ys:=Vs;clear Zv Zt Zu Yb Vs;refine hK.out _ _ ((HC.out.cell 3).trans rfl) ?_;clear hK hP K;refine SeqW.done ?_;have hmm:=Y4z (X:=MkB w _ gk gm V3 I F nilS) (a:=fa) (b:=T1.2) (d:=T2.2) Ys.out ⟨⟨Z08 Zy.out.e.lo.1 (Z12 (Nat.lt_trans Zy.out.e.lo.2 (Nat.lt_trans Zc.out (Nat.lt_trans Zh.out Xw.out)))),Nat.lt_trans Vv.out (Nat.lt_trans Zh.out Xw.out)⟩,Ys.out.lt,Sr.out⟩ Yc.out (fun k e=>⟨⟨by have:=(Wl.out k e).1;have:=Zy.out.e.lo;have:=Zc.out;have:=Zh.out;omega,by have:=(Wl.out k e).1;have:=Vv.out;have:=Zh.out;omega⟩,(World.ownsRow.lt Yc.out k e).2,(Wl.out k e).2⟩);have Qv:=bx hmm;clear hmm
             (try simp only[Act.put,Z01,Z02,Z03])
             go_wp2
             go_meet
             exact⟨V3,(ptxK T2.1 cvN).1,⟨fa,T1.2,T2.2,some ⟨ga,0,none⟩,1,1,[⟨(ptxK T2.1 cvN).2,⟨A9,n9,c9,beB 2 fcn⟩⟩]⟩,bx (Nj.out ga A9 n9 c9),Zy,Zz,Qv,Wv⟩
           ·refine SeqW.run rfl (fun K hK hP=>?_)
            go_wp2_with fail
            have hb:=Y9z (Below.refl y0.heap.size y0) (Z00 _) (.cells #[.int .i64 fcn] 3);have Zv:=bx (Zy.out.below hb);have Zt:=bx (HC.out.below hb HC.out.lt);have Zu:=bx (Zz.out.below hb Zz.out.lt);have hnm:=Zy.out.s.fp (Z00 y0.heap.size);have hxl:=Zz.out.lt;have hyl:y0.heap.size<(y0.alloc (.cells #[.int .i64 fcn] 3)).heap.size:=(by simp);have hnw:=RL.top (RL.news y0 [fcn] #[.int .i64 fcn] rfl 3 (0,0));obtain⟨gy,hg⟩:∃gy,y0.heap.size=gy:=⟨_,rfl⟩;obtain⟨y23,hw⟩:∃y23,y0.alloc (.cells #[.int .i64 fcn] 3)=y23:=⟨_,rfl⟩;rw[hg,hw];rw[hw]at hnw hyl Zv Zt Zu;rw[hg]at hnw hnm hxl hyl;have Jt:Bx (gx<gy):=bx hxl;have Vo:Bx (gy<y23.heap.size):=bx hyl;clear hb hg hw hxl hyl;clear Zy HC Zz;have Zy:=Zv;have HC:=Zt;have Zz:=Zu;clear Zv Zt Zu;have Yo:=bx hnw;have Sm:=bx hnm;have Wg:=Vo;clear Vo;clear hnw hnm;refine hK.out _ _ ((HC.out.cell 3).trans rfl) ?_;clear hK hP K;refine SeqW.both rfl (fun K hK hP=>?_) ?_
            ·go_wp2_with fail
             refine(Y9k w y23 gk gm _ V2 T2.1 cvN Zy.out.s.mkr (by decide) (by have:=Qw.out;omega)).mono ?_
             rintro e y24 ⟨V3,rfl,h3,h4⟩;obtain⟨z1,f1⟩:=Zy.out.call h3 h4;have Zv:=bx z1;have Zt:=bx (HC.out.ch f1.ch Wa.out);have Zu:=bx (Zz.out.ch f1.ch Tz.out);have Wv:=bx (f1.far Zz.out.lt Tz.out);have Tx:=bx (RL.top (RL.ch Yo.out f1.ch (Z00 _) (fun ad e=>by injection e with e;rw[←e];exact Sm.out)));have Xb:=bx (Z07 Wg.out f1.ch.size);clear h3 h4 z1 f1 Sm;clear Zy HC Zz Yo Wg;have Zy:=Zv;have HC:=Zt;have Zz:=Zu;have Yo:=Tx;have Wg:=Xb;clear Zv Zt Zu Tx Xb;go_wp2;refine hK.out _ _ ((HC.out.cell 3).trans rfl) ?_;clear hK hP K;refine SeqW.run rfl (fun K hK hP=>?_);go_wp2_with fail
             have hb:=Y9z (Below.refl y24.heap.size y24) (Z00 _) (.cells #[] 5);have Zv:=bx (Zy.out.below hb);have Zt:=bx (HC.out.below hb HC.out.lt);have Zu:=bx (Zz.out.below hb Zz.out.lt);have Tx:=bx (RL.step Yo.out hb);have Xb:=bx (Z07 Wg.out (hb).size);have hnm:=Zy.out.s.fp (Z00 y24.heap.size);have hxl:=Zz.out.lt;have hyl:y24.heap.size<(y24.alloc (.cells #[] 5)).heap.size:=(by simp);have hnw:=OwL.lit0 (f:=bV) (base:=gx+1) (e:=5) y24 Zz.out.lt;have hol:=Wg.out;obtain⟨gz,hg⟩:∃gz,y24.heap.size=gz:=⟨_,rfl⟩;obtain⟨y25,hw⟩:∃y25,y24.alloc (.cells #[] 5)=y25:=⟨_,rfl⟩;rw[hg,hw];rw[hw]at hnw hyl Zv Zt Zu Tx Xb;rw[hg]at hnw hnm hxl hyl hol;have Yp:Bx (gx<gz):=bx hxl;have Ln:Bx (gz≠gy):=bx (fun e=>by omega);clear hb hg hw hxl hyl hol;clear Zy HC Zz Yo Wg;have Zy:=Zv;have HC:=Zt;have Zz:=Zu;have Yo:=Tx;have Wg:=Xb;clear Zv Zt Zu Tx Xb;have Wz:=bx hnw;have Xz:=bx hnm;clear hnw hnm;refine hK.out _ _ ((HC.out.cell 3).trans rfl) ?_;clear hK hP K;refine SeqW.run rfl (fun K hK hP=>?_);go_wp2_with fail
             refine(Y8f (gx+1) 2 1 1 (.slice (some ⟨gz,0,none⟩) 0 0) [] (some ⟨gy,0,none⟩) [fcn] y25 Wz.out Zz.out.lt rfl Yo.out (fun _ ad e e2=>by injection e with e;have e2:some gz=some ad.block:=e2;injection e2 with e2;rw[←e]at e2;exact Ln.out e2) (by decide) (by decide) (by decide) (by simp)).mono ?_
             rintro e y26 ⟨v9,rfl,hO,hf⟩;obtain⟨A9,n9,c9,rfl,hq1,hq2⟩:=OwL.sl hO;clear hq1 hq2;rw[Z28,Z27,Z37,Z14]at hO;have Zv:=bx (Zy.out.far hf.ch (fun k e=>by have e:some gz=some k:=e;injection e with e;rw[←e];exact⟨Z12 (Nat.lt_trans Zh.out Yp.out),Nat.lt_trans Zc.out (Nat.lt_trans Zh.out Yp.out),Xz.out⟩));have Zt:=bx (HC.out.ch hf.ch (fun e=>by have e:some gz=some C:=e;injection e with e;have:=Yp.out;have:=Zh.out;omega));have Zu:=bx (Zz.out.ch hf.ch (fun e=>by have e:some gz=some gx:=e;injection e with e;have:=Yp.out;omega))
             have Wl:Bx (∀k,Fow (.slice A9 n9 c9) k→gx<k∧¬MkG gk gm V3 I F nilS k):=bx (fun k e=>by
              rcases hf.ow k e with h | h
              ·have h:some gz=some k:=h
               injection h with h
               rw[←h];exact⟨Yp.out,Xz.out⟩
              ·exact⟨Z07 Zz.out.lt h,Zy.out.s.fp h⟩)
             have Yc:=bx hO;clear hO hf Zy HC Zz Wz Yo;have Zy:=Zv;have HC:=Zt;have Zz:=Zu;clear Zv Zt Zu;go_wp2;refine hK.out _ _ ((HC.out.cell 3).trans rfl) ?_;clear hK hP K
             iterate 1 (apply SeqW.take;(· rfl);(· (refine Or.inl ⟨?_,?_⟩;(· rfl);(· (intro w hSw;(try dsimp only at hSw);go_simp <;> with_reducible rfl))));simp only[Act.put,Z01,Z02,Z03,Z06,Z04,Z05])
             refine SeqW.run rfl (fun K hK hP=>?_);go_wp2_with fail
             have hb:=Y9z (Below.refl y26.heap.size y26) (Z00 _) (.cells #[.int .i64 ((ptxK T2.1 cvN).2:Int),.slice A9 n9 c9] 41);have Zv:=bx (Zy.out.below hb);have Zt:=bx (HC.out.below hb HC.out.lt);have Zu:=bx (Zz.out.below hb Zz.out.lt);have Yb:=bx (Yc.out.below hb);have hka:=Bk.new y26 41 #[.int .i64 ((ptxK T2.1 cvN).2:Int),.slice A9 n9 c9];have hnm:=Zy.out.s.fp (Z00 y26.heap.size);have hxl:=Zz.out.lt;obtain⟨ga,hg⟩:∃ga,y26.heap.size=ga:=⟨_,rfl⟩;obtain⟨y27,hw⟩:∃y27,y26.alloc (.cells #[.int .i64 ((ptxK T2.1 cvN).2:Int),.slice A9 n9 c9] 41)=y27:=⟨_,rfl⟩;rw[hg,hw];rw[hw]at Zv Zt Zu Yb hka;rw[hg]at hka hnm hxl;have Ys:=bx hka;have Sr:=bx hnm;have Xw:Bx (gx<ga):=bx hxl;clear hb hg hw hnm hxl hka Zy HC Zz Yc;have Zy:=Zv;have HC:=Zt;have Zz:=Zu;have Yc:=Yb;clear Zv Zt Zu Yb;refine hK.out _ _ ((HC.out.cell 3).trans rfl) ?_;clear hK hP K
             iterate 1 (apply SeqW.take;(· rfl);(· (refine Or.inl ⟨?_,?_⟩;(· rfl);(· (intro w hSw;(try dsimp only at hSw);go_simp <;> with_reducible rfl))));simp only[Act.put,Z01,Z02,Z03,Z06,Z04,Z05])
             refine SeqW.run rfl (fun K hK hP=>?_);have hf3:y27.frozen? ⟨gx,3,none⟩=false:=Zz.out.frz 3;have hlx:=Zz.out.lt;have hc3:y27.cell? ⟨gx,3,none⟩=some (.slice none 0 0):=(Zz.out.cell 3).trans rfl;go_wp2_with fail
             have hch:=Y9i y27 gx 3 (.slice (some ⟨ga,0,none⟩) 1 1);have Zv:=bx (Zy.out.far hch (fun k hk=>by have hk:k=gx:=hk;rw[hk];exact⟨Z12 Zh.out,Nat.lt_trans Zc.out Zh.out,Wv.out⟩));have Zt:=bx (HC.out.ch hch (fun e=>by have e:C=gx:=e;have:=Zh.out;omega));have Zu:=bx ((Zz.out.set 3 (.slice (some ⟨ga,0,none⟩) 1 1)).trans rfl);have Yb:=bx (OwL.ch Yc.out hch (fun k e e2=>by have e2:k=gx:=e2;have:=(Wl.out k e).1;omega));have Vs:=bx (Ys.out.ch hch (fun e=>by have e:ga=gx:=e;have:=Xw.out;omega));clear hch hf3 hlx hc3 Zy HC Zz Yc Ys;have Zy:=Zv;have HC:=Zt;have Zz:=Zu;have Yc:=Yb;have Ys:=Vs;clear Zv Zt Zu Yb Vs;refine hK.out _ _ ((HC.out.cell 3).trans rfl) ?_;clear hK hP K;refine SeqW.done ?_;have hmm:=Y4z (X:=MkB w _ gk gm V3 I F nilS) (a:=fa) (b:=T1.2) (d:=T2.2) Ys.out ⟨⟨Z08 Zy.out.e.lo.1 (Z12 (Nat.lt_trans Zy.out.e.lo.2 (Nat.lt_trans Zc.out (Nat.lt_trans Zh.out Xw.out)))),Nat.lt_trans Vv.out (Nat.lt_trans Zh.out Xw.out)⟩,Ys.out.lt,Sr.out⟩ Yc.out (fun k e=>⟨⟨by have:=(Wl.out k e).1;have:=Zy.out.e.lo;have:=Zc.out;have:=Zh.out;omega,by have:=(Wl.out k e).1;have:=Vv.out;have:=Zh.out;omega⟩,(World.ownsRow.lt Yc.out k e).2,(Wl.out k e).2⟩);have Qv:=bx hmm;clear hmm
             (try simp only[Act.put,Z01,Z02,Z03])
             go_wp2
             go_meet
             exact⟨V3,(ptxK T2.1 cvN).1,⟨fa,T1.2,T2.2,some ⟨ga,0,none⟩,1,1,[⟨(ptxK T2.1 cvN).2,⟨A9,n9,c9,beB 2 fcn⟩⟩]⟩,bx (Nj.out ga A9 n9 c9),Zy,Zz,Qv,Wv⟩
            ·refine SeqW.run rfl (fun K hK hP=>?_)
             go_wp2_with fail
             have hb:=Y9z (Below.refl y23.heap.size y23) (Z00 _) (.cells #[] 5);have Zv:=bx (Zy.out.below hb);have Zt:=bx (HC.out.below hb HC.out.lt);have Zu:=bx (Zz.out.below hb Zz.out.lt);have Tx:=bx (RL.step Yo.out hb);have Xb:=bx (Z07 Wg.out (hb).size);have hnm:=Zy.out.s.fp (Z00 y23.heap.size);have hxl:=Zz.out.lt;have hyl:y23.heap.size<(y23.alloc (.cells #[] 5)).heap.size:=(by simp);have hnw:=OwL.lit0 (f:=bV) (base:=gx+1) (e:=5) y23 Zz.out.lt;have hol:=Wg.out;obtain⟨gz,hg⟩:∃gz,y23.heap.size=gz:=⟨_,rfl⟩;obtain⟨y29,hw⟩:∃y29,y23.alloc (.cells #[] 5)=y29:=⟨_,rfl⟩;rw[hg,hw];rw[hw]at hnw hyl Zv Zt Zu Tx Xb;rw[hg]at hnw hnm hxl hyl hol;have Yp:Bx (gx<gz):=bx hxl;have Ln:Bx (gz≠gy):=bx (fun e=>by omega);clear hb hg hw hxl hyl hol;clear Zy HC Zz Yo Wg;have Zy:=Zv;have HC:=Zt;have Zz:=Zu;have Yo:=Tx;have Wg:=Xb;clear Zv Zt Zu Tx Xb;have Wz:=bx hnw;have Xz:=bx hnm;clear hnw hnm;refine hK.out _ _ ((HC.out.cell 3).trans rfl) ?_;clear hK hP K;refine SeqW.run rfl (fun K hK hP=>?_);go_wp2_with fail
             refine(Y9k w y29 gk gm _ V2 T2.1 cvN Zy.out.s.mkr (by decide) (by have:=Qw.out;omega)).mono ?_
             rintro e y30 ⟨V3,rfl,h3,h4⟩;obtain⟨z1,f1⟩:=Zy.out.call h3 h4;have Zv:=bx z1;have Zt:=bx (HC.out.ch f1.ch Wa.out);have Zu:=bx (Zz.out.ch f1.ch Tz.out);have Wv:=bx (f1.far Zz.out.lt Tz.out);have Zl:=bx (OwL.ch Wz.out f1.ch (fun k e=>by have e:some gz=some k:=e;injection e with e;rw[←e];exact Xz.out));have Qu:=bx (f1.far (Wz.out.blk (g:=gz)).2 Xz.out);have Tx:=bx (RL.top (RL.ch Yo.out f1.ch (Z00 _) (fun ad e=>by injection e with e;rw[←e];exact Sm.out)));have Xb:=bx (Z07 Wg.out f1.ch.size);clear h3 h4 z1 f1 Xz Sm;clear Zy HC Zz Wz Yo Wg;have Zy:=Zv;have HC:=Zt;have Zz:=Zu;have Wz:=Zl;have Yo:=Tx;have Wg:=Xb;clear Zv Zt Zu Zl Tx Xb;have Xz:=Qu;clear Qu;go_wp2;refine hK.out _ _ ((HC.out.cell 3).trans rfl) ?_;clear hK hP K;refine SeqW.run rfl (fun K hK hP=>?_);go_wp2_with fail
             refine(Y8f (gx+1) 2 1 1 (.slice (some ⟨gz,0,none⟩) 0 0) [] (some ⟨gy,0,none⟩) [fcn] y30 Wz.out Zz.out.lt rfl Yo.out (fun _ ad e e2=>by injection e with e;have e2:some gz=some ad.block:=e2;injection e2 with e2;rw[←e]at e2;exact Ln.out e2) (by decide) (by decide) (by decide) (by simp)).mono ?_
             rintro e y31 ⟨v9,rfl,hO,hf⟩;obtain⟨A9,n9,c9,rfl,hq1,hq2⟩:=OwL.sl hO;clear hq1 hq2;rw[Z28,Z27,Z37,Z14]at hO;have Zv:=bx (Zy.out.far hf.ch (fun k e=>by have e:some gz=some k:=e;injection e with e;rw[←e];exact⟨Z12 (Nat.lt_trans Zh.out Yp.out),Nat.lt_trans Zc.out (Nat.lt_trans Zh.out Yp.out),Xz.out⟩));have Zt:=bx (HC.out.ch hf.ch (fun e=>by have e:some gz=some C:=e;injection e with e;have:=Yp.out;have:=Zh.out;omega));have Zu:=bx (Zz.out.ch hf.ch (fun e=>by have e:some gz=some gx:=e;injection e with e;have:=Yp.out;omega))
             have Wl:Bx (∀k,Fow (.slice A9 n9 c9) k→gx<k∧¬MkG gk gm V3 I F nilS k):=bx (fun k e=>by
              rcases hf.ow k e with h | h
              ·have h:some gz=some k:=h
               injection h with h
               rw[←h];exact⟨Yp.out,Xz.out⟩
              ·exact⟨Z07 Zz.out.lt h,Zy.out.s.fp h⟩)
             have Yc:=bx hO;clear hO hf Zy HC Zz Wz Yo;have Zy:=Zv;have HC:=Zt;have Zz:=Zu;clear Zv Zt Zu;go_wp2;refine hK.out _ _ ((HC.out.cell 3).trans rfl) ?_;clear hK hP K
             iterate 1 (apply SeqW.take;(· rfl);(· (refine Or.inl ⟨?_,?_⟩;(· rfl);(· (intro w hSw;(try dsimp only at hSw);go_simp <;> with_reducible rfl))));simp only[Act.put,Z01,Z02,Z03,Z06,Z04,Z05])
             refine SeqW.run rfl (fun K hK hP=>?_);go_wp2_with fail
             have hb:=Y9z (Below.refl y31.heap.size y31) (Z00 _) (.cells #[.int .i64 ((ptxK T2.1 cvN).2:Int),.slice A9 n9 c9] 41);have Zv:=bx (Zy.out.below hb);have Zt:=bx (HC.out.below hb HC.out.lt);have Zu:=bx (Zz.out.below hb Zz.out.lt);have Yb:=bx (Yc.out.below hb);have hka:=Bk.new y31 41 #[.int .i64 ((ptxK T2.1 cvN).2:Int),.slice A9 n9 c9];have hnm:=Zy.out.s.fp (Z00 y31.heap.size);have hxl:=Zz.out.lt;obtain⟨ga,hg⟩:∃ga,y31.heap.size=ga:=⟨_,rfl⟩;obtain⟨y32,hw⟩:∃y32,y31.alloc (.cells #[.int .i64 ((ptxK T2.1 cvN).2:Int),.slice A9 n9 c9] 41)=y32:=⟨_,rfl⟩;rw[hg,hw];rw[hw]at Zv Zt Zu Yb hka;rw[hg]at hka hnm hxl;have Ys:=bx hka;have Sr:=bx hnm;have Xw:Bx (gx<ga):=bx hxl;clear hb hg hw hnm hxl hka Zy HC Zz Yc;have Zy:=Zv;have HC:=Zt;have Zz:=Zu;have Yc:=Yb;clear Zv Zt Zu Yb;refine hK.out _ _ ((HC.out.cell 3).trans rfl) ?_;clear hK hP K
             iterate 1 (apply SeqW.take;(· rfl);(· (refine Or.inl ⟨?_,?_⟩;(· rfl);(· (intro w hSw;(try dsimp only at hSw);go_simp <;> with_reducible rfl))));simp only[Act.put,Z01,Z02,Z03,Z06,Z04,Z05])
             refine SeqW.run rfl (fun K hK hP=>?_);have hf3:y32.frozen? ⟨gx,3,none⟩=false:=Zz.out.frz 3;have hlx:=Zz.out.lt;have hc3:y32.cell? ⟨gx,3,none⟩=some (.slice none 0 0):=(Zz.out.cell 3).trans rfl;go_wp2_with fail
             have hch:=Y9i y32 gx 3 (.slice (some ⟨ga,0,none⟩) 1 1);have Zv:=bx (Zy.out.far hch (fun k hk=>by have hk:k=gx:=hk;rw[hk];exact⟨Z12 Zh.out,Nat.lt_trans Zc.out Zh.out,Wv.out⟩));have Zt:=bx (HC.out.ch hch (fun e=>by have e:C=gx:=e;have:=Zh.out;omega));have Zu:=bx ((Zz.out.set 3 (.slice (some ⟨ga,0,none⟩) 1 1)).trans rfl);have Yb:=bx (OwL.ch Yc.out hch (fun k e e2=>by have e2:k=gx:=e2;have:=(Wl.out k e).1;omega));have Vs:=bx (Ys.out.ch hch (fun e=>by have e:ga=gx:=e;have:=Xw.out;omega));clear hch hf3 hlx hc3 Zy HC Zz Yc Ys;have Zy:=Zv;have HC:=Zt;have Zz:=Zu;have Yc:=Yb;have Ys:=Vs;clear Zv Zt Zu Yb Vs;refine hK.out _ _ ((HC.out.cell 3).trans rfl) ?_;clear hK hP K;refine SeqW.done ?_;have hmm:=Y4z (X:=MkB w _ gk gm V3 I F nilS) (a:=fa) (b:=T1.2) (d:=T2.2) Ys.out ⟨⟨Z08 Zy.out.e.lo.1 (Z12 (Nat.lt_trans Zy.out.e.lo.2 (Nat.lt_trans Zc.out (Nat.lt_trans Zh.out Xw.out)))),Nat.lt_trans Vv.out (Nat.lt_trans Zh.out Xw.out)⟩,Ys.out.lt,Sr.out⟩ Yc.out (fun k e=>⟨⟨by have:=(Wl.out k e).1;have:=Zy.out.e.lo;have:=Zc.out;have:=Zh.out;omega,by have:=(Wl.out k e).1;have:=Vv.out;have:=Zh.out;omega⟩,(World.ownsRow.lt Yc.out k e).2,(Wl.out k e).2⟩);have Qv:=bx hmm;clear hmm
             (try simp only[Act.put,Z01,Z02,Z03])
             go_wp2
             go_meet
             exact⟨V3,(ptxK T2.1 cvN).1,⟨fa,T1.2,T2.2,some ⟨ga,0,none⟩,1,1,[⟨(ptxK T2.1 cvN).2,⟨A9,n9,c9,beB 2 fcn⟩⟩]⟩,bx (Nj.out ga A9 n9 c9),Zy,Zz,Qv,Wv⟩
          -- REG27 }
          -- DEV}
        case rest=>
        obtain⟨V3,P3,x,hFE,hZ,hX,hM,hN⟩:=hcut;have Rr:Bx (rowK mflK R1.1 (fl.take (i+1))=(P3,R.2++[x.p])):=bx (by rw[Zb.out,hFE.out]);have Tz:=bx hN.out;clear hFE hN Ti Yr Ss Tg Pv;go_step;go_upto_region 28 with(fail)
        have Zy:Bx (MkZ w wc.drew C g1 g2 X gk gm (T.2:Int) (Q.2:Int) V3 I F nilS P3 R1.2 fs []):=bx (hZ.out.below (below_drewN (Below.refl wc.heap.size wc) 1));have Zz:Bx (Bk wc.drew gx 43 #[.int .i64 x.access,.int .i64 x.name,.int .i64 x.desc,.slice x.A x.n x.c]):=bx (hX.out.drewN 1);have Xc:Bx (MmX wc.drew (MkB w wc.drew.heap.size gk gm V3 I F nilS) x):=bx hM.out;clear hZ hX hM
        -- DEV{ r28
        -- REG28F {
        refine Y9x (S:=fun w'=>w'.cell? ⟨gx,0,none⟩=some (.int .i64 x.access)∧w'.cell? ⟨gx,1,none⟩=some (.int .i64 x.name)∧w'.cell? ⟨gx,2,none⟩=some (.int .i64 x.desc)∧w'.cell? ⟨gx,3,none⟩=some (.slice x.A x.n x.c)) (.tk 0 (.tk 1 (.tk 2 (.tk 3 (.tk 4 (.tk 6 (.alt 5 (.rn 7 (.rn 8 (.tk 9 (.tk 10 (.tk 11 (.rn 12 .fin)))))) (.alt 7 (.rn 5 (.rn 8 (.tk 9 (.tk 10 (.tk 11 (.rn 12 .fin)))))) .non)))))))) (by kernel_rfl) (by kernel_rfl) (by kernel_rfl) (fun _ _ _ _ h=>h) ⟨(Zz.out.cell 0).trans rfl,(Zz.out.cell 1).trans rfl,(Zz.out.cell 2).trans rfl,(Zz.out.cell 3).trans rfl⟩ ?_;generalize wc.drew=y0 at Zy Zz Xc ⊢
        iterate 6 (apply SeqW.take;(· rfl);(· (refine Or.inl ⟨?_,?_⟩;(· rfl);(· (intro w hSw;(try dsimp only at hSw);go_simp <;> with_reducible rfl))));simp only[Act.put,Z01,Z02,Z03,Z06,Z04,Z05])
        refine SeqW.both rfl (fun K hK hP=>?_) ?_
        ·have k7:y0.cell? ⟨gk,7,none⟩=some F:=Zy.out.s.c7
         go_wp2_with fail
         refine hK.out _ _ ⟨(Zz.out.cell 0).trans rfl,(Zz.out.cell 1).trans rfl,(Zz.out.cell 2).trans rfl,(Zz.out.cell 3).trans rfl⟩ ?_;clear hK hP K k7;refine SeqW.run rfl (fun K hK hP=>?_);go_wp2_with fail
         have hb:=Y9z (Below.refl y0.heap.size y0) (Z00 _) (.cells #[.int .i64 x.access,.int .i64 x.name,.int .i64 x.desc,.slice x.A x.n x.c] 43);have Zv:=bx (Zy.out.below hb);have Zu:=bx (Zz.out.below hb Zz.out.lt);have Xt:Bx (MmX (y0.alloc (.cells #[.int .i64 x.access,.int .i64 x.name,.int .i64 x.desc,.slice x.A x.n x.c] 43)) (MkB w (y0.alloc (.cells #[.int .i64 x.access,.int .i64 x.name,.int .i64 x.desc,.slice x.A x.n x.c] 43)).heap.size gk gm V3 I F nilS) x):=bx (Xc.out.step (fun k hk=>hb.block k hk.2.1) (fun k hk=>⟨hk.1,Z07 hk.2.1 hb.size,hk.2.2⟩));have hnw:=RS.top (RS.new (fC:=memC) y0 x #[.int .i64 x.access,.int .i64 x.name,.int .i64 x.desc,.slice x.A x.n x.c] rfl 43 (0,0));obtain⟨gz,hg⟩:∃gz,y0.heap.size=gz:=⟨_,rfl⟩;obtain⟨y2,hw⟩:∃y2,y0.alloc (.cells #[.int .i64 x.access,.int .i64 x.name,.int .i64 x.desc,.slice x.A x.n x.c] 43)=y2:=⟨_,rfl⟩;rw[hg,hw];rw[hw]at Zv Zu Xt hnw;rw[hg]at hnw;clear hb hg hw Zy Zz Xc;have Zy:=Zv;have Zz:=Zu;have Xc:=Xt;have Vb:=bx hnw;clear Zv Zu Xt hnw;refine hK.out _ _ ⟨(Zz.out.cell 0).trans rfl,(Zz.out.cell 1).trans rfl,(Zz.out.cell 2).trans rfl,(Zz.out.cell 3).trans rfl⟩ ?_;clear hK hP K;refine SeqW.run rfl (fun K hK hP=>?_);refine Y9y _ memCels rfl (.tmp 155) (.tmp 157) rfl memTy (by decide) w.heap.size F fs rfl Zy.out.s.f y2.heap.size (some ⟨gz,0,none⟩) 1 1 [x] rfl rfl Vb.out (by have:=Xy.out.2;simp only[Z11,Z13];omega) Zy.out.e.bel.size ?_;intro V7 y3 hO hg hv hbb;clear hbb;obtain⟨A7,c7,e7,hq1,hq2⟩:=hO.rd;clear hq1 hq2;obtain⟨n7,hn7⟩:∃n7,(fs++[x]).length=n7:=⟨_,rfl⟩;rw[hn7]at e7;subst e7;clear hn7;obtain⟨a1,a2,a3⟩:=Zy.out.s.appF Xc.out hO hg hv;have Wh:=bx a1;have Nl:=bx (Zy.out.on a2 a3);have Zu:Bx (Bk y3 gx 43 #[.int .i64 x.access,.int .i64 x.name,.int .i64 x.desc,.slice x.A x.n x.c]):=bx (Zz.out.grown hg (fun e=>Tz.out (.inr (.inr (.inl e.symm)))));have Rs:Bx (gk≠gx):=bx (fun e=>Tz.out (.inl (.inl e.symm)));clear a1 a2 a3 hO hg hv Zy Zz;have Zz:=Zu;clear Zu;refine wpList_nil ?_;refine hK.out _ _ ⟨(Zz.out.cell 0).trans rfl,(Zz.out.cell 1).trans rfl,(Zz.out.cell 2).trans rfl,(Zz.out.cell 3).trans rfl⟩ ?_;clear hK hP K
         iterate 3 (apply SeqW.take;(· rfl);(· (refine Or.inl ⟨?_,?_⟩;(· rfl);(· (intro w hSw;(try dsimp only at hSw);go_simp <;> with_reducible rfl))));simp only[Act.put,Z01,Z02,Z03,Z06,Z04,Z05])
         refine SeqW.run rfl (fun K hK hP=>?_);have hf6:y3.frozen? ⟨gk,7,none⟩=false:=Wh.out.frz 7;have hlk:=Wh.out.lt;have hk6:y3.cell? ⟨gk,7,none⟩=some F:=(Wh.out.cell 7).trans rfl;go_wp2_with fail
         have Zu:=bx (Zz.out.far (p:=⟨gk,7,none⟩) (fun e=>Rs.out e.symm) (.slice A7 n7 c7));clear Zz;have Zz:=Zu;refine hK.out _ _ ⟨(Zz.out.cell 0).trans rfl,(Zz.out.cell 1).trans rfl,(Zz.out.cell 2).trans rfl,(Zz.out.cell 3).trans rfl⟩ ?_;clear hK hP K hf6 hlk hk6 Wh Zu;refine SeqW.done ?_
         (try simp only[Act.put])
         go_wp2;go_roundw
         case rel=>
          refine⟨i+1,y2.heap.size,V3,.slice A7 n7 c7,fs++[x],by omega,by go_num,bx ?_,bx ?_⟩
          ·rw[Rr.out,Z34,Nk.out]
           rfl
          ·rw[Rr.out]
           exact Nl.out
         case measure=>simp [intOf];omega
        ·refine SeqW.run rfl (fun K hK hP=>?_)
         go_wp2_with fail
         have hb:=Y9z (Below.refl y0.heap.size y0) (Z00 _) (.cells #[.int .i64 x.access,.int .i64 x.name,.int .i64 x.desc,.slice x.A x.n x.c] 43);have Zv:=bx (Zy.out.below hb);have Zu:=bx (Zz.out.below hb Zz.out.lt);have Xt:Bx (MmX (y0.alloc (.cells #[.int .i64 x.access,.int .i64 x.name,.int .i64 x.desc,.slice x.A x.n x.c] 43)) (MkB w (y0.alloc (.cells #[.int .i64 x.access,.int .i64 x.name,.int .i64 x.desc,.slice x.A x.n x.c] 43)).heap.size gk gm V3 I F nilS) x):=bx (Xc.out.step (fun k hk=>hb.block k hk.2.1) (fun k hk=>⟨hk.1,Z07 hk.2.1 hb.size,hk.2.2⟩));have hnw:=RS.top (RS.new (fC:=memC) y0 x #[.int .i64 x.access,.int .i64 x.name,.int .i64 x.desc,.slice x.A x.n x.c] rfl 43 (0,0));obtain⟨gz,hg⟩:∃gz,y0.heap.size=gz:=⟨_,rfl⟩;obtain⟨y5,hw⟩:∃y5,y0.alloc (.cells #[.int .i64 x.access,.int .i64 x.name,.int .i64 x.desc,.slice x.A x.n x.c] 43)=y5:=⟨_,rfl⟩;rw[hg,hw];rw[hw]at Zv Zu Xt hnw;rw[hg]at hnw;clear hb hg hw Zy Zz Xc;have Zy:=Zv;have Zz:=Zu;have Xc:=Xt;have Vb:=bx hnw;clear Zv Zu Xt hnw;refine hK.out _ _ ⟨(Zz.out.cell 0).trans rfl,(Zz.out.cell 1).trans rfl,(Zz.out.cell 2).trans rfl,(Zz.out.cell 3).trans rfl⟩ ?_;clear hK hP K;refine SeqW.run rfl (fun K hK hP=>?_);have k7:y5.cell? ⟨gk,7,none⟩=some F:=Zy.out.s.c7;go_wp2_with fail
         refine hK.out _ _ ⟨(Zz.out.cell 0).trans rfl,(Zz.out.cell 1).trans rfl,(Zz.out.cell 2).trans rfl,(Zz.out.cell 3).trans rfl⟩ ?_;clear hK hP K k7;refine SeqW.run rfl (fun K hK hP=>?_);refine Y9y _ memCels rfl (.tmp 155) (.tmp 157) rfl memTy (by decide) w.heap.size F fs rfl Zy.out.s.f y5.heap.size (some ⟨gz,0,none⟩) 1 1 [x] rfl rfl Vb.out (by have:=Xy.out.2;simp only[Z11,Z13];omega) Zy.out.e.bel.size ?_;intro V7 y7 hO hg hv hbb;clear hbb;obtain⟨A7,c7,e7,hq1,hq2⟩:=hO.rd;clear hq1 hq2;obtain⟨n7,hn7⟩:∃n7,(fs++[x]).length=n7:=⟨_,rfl⟩;rw[hn7]at e7;subst e7;clear hn7;obtain⟨a1,a2,a3⟩:=Zy.out.s.appF Xc.out hO hg hv;have Wh:=bx a1;have Nl:=bx (Zy.out.on a2 a3);have Zu:Bx (Bk y7 gx 43 #[.int .i64 x.access,.int .i64 x.name,.int .i64 x.desc,.slice x.A x.n x.c]):=bx (Zz.out.grown hg (fun e=>Tz.out (.inr (.inr (.inl e.symm)))));have Rs:Bx (gk≠gx):=bx (fun e=>Tz.out (.inl (.inl e.symm)));clear a1 a2 a3 hO hg hv Zy Zz;have Zz:=Zu;clear Zu;refine wpList_nil ?_;refine hK.out _ _ ⟨(Zz.out.cell 0).trans rfl,(Zz.out.cell 1).trans rfl,(Zz.out.cell 2).trans rfl,(Zz.out.cell 3).trans rfl⟩ ?_;clear hK hP K
         iterate 3 (apply SeqW.take;(· rfl);(· (refine Or.inl ⟨?_,?_⟩;(· rfl);(· (intro w hSw;(try dsimp only at hSw);go_simp <;> with_reducible rfl))));simp only[Act.put,Z01,Z02,Z03,Z06,Z04,Z05])
         refine SeqW.run rfl (fun K hK hP=>?_);have hf6:y7.frozen? ⟨gk,7,none⟩=false:=Wh.out.frz 7;have hlk:=Wh.out.lt;have hk6:y7.cell? ⟨gk,7,none⟩=some F:=(Wh.out.cell 7).trans rfl;go_wp2_with fail
         have Zu:=bx (Zz.out.far (p:=⟨gk,7,none⟩) (fun e=>Rs.out e.symm) (.slice A7 n7 c7));clear Zz;have Zz:=Zu;refine hK.out _ _ ⟨(Zz.out.cell 0).trans rfl,(Zz.out.cell 1).trans rfl,(Zz.out.cell 2).trans rfl,(Zz.out.cell 3).trans rfl⟩ ?_;clear hK hP K hf6 hlk hk6 Wh Zu;refine SeqW.done ?_
         (try simp only[Act.put])
         go_wp2;go_roundw
         case rel=>
          refine⟨i+1,y5.heap.size,V3,.slice A7 n7 c7,fs++[x],by omega,by go_num,bx ?_,bx ?_⟩
          ·rw[Rr.out,Z34,Nk.out]
           rfl
          ·rw[Rr.out]
           exact Nl.out
         case measure=>simp [intOf];omega
        -- REG28F }
        -- DEV}
        -- DEV}
       ·obtain rfl:i=fn:=by omega
        have hiI:¬(i:Int)<(i:Int):=(by omega);have hr1:=Y7h (K:=3) (B:=1) fl R1.1 (fun s _ P=>X5h P s);obtain⟨R2,hR2⟩:∃R2,rowK mflK R1.1 fl=R2:=⟨_,rfl⟩;rw[hR2]at hr1;have Wx:=bx hR2;have I9:Bx (R2.1.length≤1500):=bx (by have:=X1.out;have:=Sv.out;omega);have I8:Bx (fs.map MmE.p=R2.2):=bx (by have h:=Nk.out;rwa [Y6p mflK R1.1 (by rw[Sv.out.1];exact Z00 _),hR2]at h);have Rq:Bx (MkZ w wr b g1 g2 X gk gm (T.2:Int) (Q.2:Int) V I F nilS R2.1 R1.2 fs []):=bx (by have h:=HZ.out;rwa [Y6p mflK R1.1 (by rw[Sv.out.1];exact Z00 _),hR2]at h);have c5:wr.cell? ⟨g1,5,none⟩=some (.slice mA mn mc):=(HZ.out.e.b1.cell 5).trans (by show some X.mts.v=_;rw[Sc.out.2.2.2.2.2.1];rfl);have Cd:Bx (ml.length=mn∧mn≤64∧RS mtC w w.heap.size mA ml∧∀s∈ml,MtOk w s∧s.name.length≤2000000∧s.desc.length≤2000000):=bx (by have h1:=HX.out.mts;have h2:=HN.out.mts.2;have h3:=Np.out.1.2.2.2;have h5:=HX.out.mt;have h6:=Np.out.2;rw[Sc.out.2.2.2.2.2.1]at h1 h2 h5;have h4:ml.length=mn:=h1.1;have h3:(ml.map MtE.p).length≤64:=h3;rw[Z17,h4]at h3;exact⟨h4,h3,h1.rs (fun _ h=>h),fun s hs=>⟨mt_ok (h5 s hs) (h2 s hs) (h6 s.p (List.mem_map_of_mem hs)),(h2 s hs).name,(h2 s hs).desc⟩⟩);clear HZ Nk hR2 hr1;go_wp2;clear c5 hiI hfn64;have hmn64:=Cd.out.2.1;obtain⟨wp2,rfl⟩:∃wp2,wp2=wr:=⟨_,rfl⟩;have Ng:Bx (([]:List MmE).map MmE.p=(rowK mmtK R2.1 ((ml.take 0).map MtE.p)).2):=bx rfl
        go_loopw [166] (fun iv wx=>∃(i b:Nat) (V M:Value) (ms:List MmE),i≤mn∧iv = .int .i64 (i:Int)∧Bx (ms.map MmE.p=(rowK mmtK R2.1 ((ml.take i).map MtE.p)).2)∧Bx (MkZ w wx b g1 g2 X gk gm (T.2:Int) (Q.2:Int) V I F M (rowK mmtK R2.1 ((ml.take i).map MtE.p)).1 R1.2 fs ms)) (fun iv _=>mn-(intOf iv).toNat)
        case atStart=>exact⟨0,b,V,nilS,[],by omega,rfl,Ng,Rq⟩
        case round=>
         clear Rq Ng;obtain⟨i,b,V,M,ms,hi,rfl,Nk,HZ⟩:=hrel;by_cases hin:i<mn
         ·have hiI:(i:Int)<(mn:Int):=by omega
          -- DEV{ meth
          obtain⟨ad,m9,rfl,hlt,HT,q0,q1⟩:=(Cd.out.2.2.1.below HZ.out.e.bel (Z00 _)).at_ mtCels (k:=i) (by rw[Cd.out.1];exact hin);have Vi:=bx HT.out;have hfo:=Cd.out.2.2.2 _ (Z16 Vi.out);have Cg:=bx hfo.1;have Gq:=bx hfo.2;obtain⟨ma,mnm,mds,mth,mst,mlo,⟨kA,kn,kc,kl⟩,⟨hA,hn,hc,hs⟩,⟨rA,rn,rc,rl⟩⟩:=m9;have p0:=q0 _ rfl;have p1:=q1 0 _ rfl;have p2:=q1 1 _ rfl;have p3:=q1 2 _ rfl;have p4:=q1 3 _ rfl;have p5:=q1 4 _ rfl;have p6:=q1 5 _ rfl;have p7:=q1 6 _ rfl;have p8:=q1 7 _ rfl;simp only[Z22,Nat.reduceAdd]at p1 p2 p3 p4 p5 p6 p7 p8;unfold strQ at p1 p2;unfold slV at p6;unfold Sq.v at p7 p8;dsimp only at p6 p7 p8 Gq;clear q0 q1 HT hlt hfo;obtain⟨CM,hCM⟩:∃CM:Array Value,#[.int .i64 ma,.string ⟨mnm.toArray⟩,.string ⟨mds.toArray⟩,.bool mth,.int .i64 mst,.int .i64 mlo,.slice kA kn kc,.slice hA hn hc,.slice rA rn rc]=CM:=⟨_,rfl⟩;have Ve:Bx (CM.size=9∧CM[0]? = some (.int .i64 ma)∧CM[1]? = some (.string ⟨mnm.toArray⟩)∧CM[2]? = some (.string ⟨mds.toArray⟩)∧CM[3]? = some (.bool mth)):=bx (by rw[←hCM];exact⟨rfl,rfl,rfl,rfl,rfl⟩);obtain⟨mp,hmp⟩:∃mp:Mth,MtE.p ⟨ma,mnm,mds,mth,mst,mlo,⟨kA,kn,kc,kl⟩,⟨hA,hn,hc,hs⟩,⟨rA,rn,rc,rl⟩⟩=mp:=⟨_,rfl⟩;have Xa:Bx (mp.access=ma∧mp.name=mnm∧mp.desc=mds∧mp.there=mth):=bx (by rw[←hmp];exact⟨rfl,rfl,rfl,rfl⟩);have hmcd:∀(wq:World) (V:Value) (P:List Cst) (th su:Int) (M:Value),MkR w wq gk gm (mkA X.access th su I F M gm) V P→P.length≤600000000→Calls Tryd.prog 13 #[.pointer (some ⟨gk,0,none⟩),.agg CM] wq (MnPost w wq gk gm (mkA X.access th su I F M gm) V (mcdK P mp)):=fun wq V P th su M h hP=>by have h:=X3x w wq gk gm _ V P _ h Cg.out hP;rw[hmp]at h;rw[←hCM];exact h
          have I7:=bx hmcd;have hms:MtS mp:=by rw[←hmp];exact Cg.out.ms
          have D2:=bx hms;have hnx:=Y7b mmtK R2.1 (l:=ml.map MtE.p) (j:=i) (x:=mp) (by rw[List.getElem?_map,Vi.out];exact congrArg some hmp);rw[←List.map_take,←List.map_take]at hnx;have hlen:=Y7h (K:=70003) (B:=1) ((ml.take i).map MtE.p) R2.1 (fun s hs P=>by obtain⟨y,hy,rfl⟩:=List.mem_map.1 hs;exact W6g P _ (Cd.out.2.2.2 y (List.mem_of_mem_take hy)).1.ms);obtain⟨R,hR⟩:∃R,rowK mmtK R2.1 ((ml.take i).map MtE.p)=R:=⟨_,rfl⟩;rw[hR]at HZ Nk hnx hlen;have Zb:=bx hnx;have Xy:Bx (R.1.length≤5000000∧(ms.length+1)*48≤140737488355328):=bx (by have h:=I9.out;have h2:=congrArg List.length Nk.out;rw[Z17]at h2;rw[Z17,Z29]at hlen;omega);obtain⟨C,hCs⟩:∃C,wr.heap.size=C:=⟨_,rfl⟩;have hzt:=HZ.out.top;rw[hCs]at hzt;have hb9:=Y9z (Below.refl wr.heap.size wr) (Z00 _) (.cells #[.int .i64 ma,.string ⟨mnm.toArray⟩,.string ⟨mds.toArray⟩,.bool mth,.int .i64 mst,.int .i64 mlo,.slice kA kn kc,.slice hA hn hc,.slice rA rn rc] 51);have Px:=bx (hzt.below hb9);have Pj:=bx (Bk.newAt wr 51 #[.int .i64 ma,.string ⟨mnm.toArray⟩,.string ⟨mds.toArray⟩,.bool mth,.int .i64 mst,.int .i64 mlo,.slice kA kn kc,.slice hA hn hc,.slice rA rn rc] hCs);have Wa:=bx (hzt.s.fp (Z32 hCs));have Zc:Bx (g2<C):=bx (by have:=HZ.out.e.lt.2;omega);have Vv:Bx (gk<C):=bx (by have:=HZ.out.s.mkr.box.lt;omega);have Ws:=bx hCs;have I6:=bx hCM;clear hnx hlen hR hCs hzt hb9 HZ hmcd hms hmp hCM;go_upto_region 33 with(fail)
          rw[Ws.out];generalize wr.alloc (.cells #[.int .i64 ma,.string ⟨mnm.toArray⟩,.string ⟨mds.toArray⟩,.bool mth,.int .i64 mst,.int .i64 mlo,.slice kA kn kc,.slice hA hn hc,.slice rA rn rc] 51)=wb at Px Pj ⊢;rw[I6.out]at Pj;clear p0 p1 p2 p3 p4 p5 p6 p7 p8 Ws;have Zy:Bx (MkZ w wb.drew C g1 g2 X gk gm (T.2:Int) (Q.2:Int) V I F M R.1 R1.2 fs ms):=bx (Px.out.below (below_drewN (Below.refl wb.heap.size wb) 1));have HC:Bx (Bk wb.drew C 51 CM):=bx (Pj.out.drewN 1);clear Px Pj
          go_cut [16] from 170 to 176 (fun v16 wx=>∃(gx:Nat) (V1:Value),v16 = .pointer (some ⟨gx,0,none⟩)∧Bx (MkZ w wx C g1 g2 X gk gm (T.2:Int) (Q.2:Int) V1 I F M (ptxK R.1 mnm).1 R1.2 fs ms)∧Bx (Bk wx C 51 CM)∧Bx (Bk wx gx 43 #[.int .i64 ma,.int .i64 ((ptxK R.1 mnm).2:Int),.int .i64 0,.slice none 0 0])∧Bx (C<gx∧¬MkG gk gm V1 I F M gx∧¬MkG gk gm V1 I F M C))
          case first=>
            -- DEV{ r33
            -- REG24M {
            refine Y9x (S:=fun w'=>w'.cell? ⟨C,0,none⟩=some (.int .i64 ma)∧w'.cell? ⟨C,1,none⟩=some (.string ⟨mnm.toArray⟩)) (.tk 0 (.tk 1 (.tk 2 (.tk 3 (.tk 4 (.alt 5 (.tk 6 (.rn 7 (.rn 8 .fin))) (.alt 7 (.rn 5 (.tk 6 (.rn 8 .fin))) .non))))))) (by kernel_rfl) (by kernel_rfl) (by kernel_rfl) (fun _ _ _ _ h=>h) ⟨(HC.out.cell 0).trans Ve.out.2.1,(HC.out.cell 1).trans Ve.out.2.2.1⟩ ?_;generalize wb.drew=y0 at Zy HC ⊢
            iterate 5 (apply SeqW.take;(· rfl);(· (refine Or.inl ⟨?_,?_⟩;(· rfl);(· (intro w hSw;(try dsimp only at hSw);go_simp <;> with_reducible rfl))));simp only[Act.put,Z01,Z02,Z03,Z06,Z04,Z05])
            refine SeqW.both rfl (fun K hK hP=>?_) ?_
            ·go_wp2_with fail
             refine(Y9k w y0 gk gm _ V R.1 mnm Zy.out.s.mkr Gq.out.1 (by have:=Xy.out.1;omega)).mono ?_
             rintro e y1 ⟨V1,rfl,h3,h4⟩;obtain⟨z1,f1⟩:=Zy.out.call h3 h4;have Zv:=bx z1;have Zt:=bx (HC.out.ch f1.ch Wa.out);have Ww:=bx (f1.far HC.out.lt Wa.out);clear h3 h4 z1 f1 Zy HC Wa;have Zy:=Zv;have HC:=Zt;have Wa:=Ww;clear Zv Zt Ww;go_wp2;refine hK.out _ _ ⟨(HC.out.cell 0).trans Ve.out.2.1,(HC.out.cell 1).trans Ve.out.2.2.1⟩ ?_;clear hK hP K
             iterate 1 (apply SeqW.take;(· rfl);(· (refine Or.inl ⟨?_,?_⟩;(· rfl);(· (intro w hSw;(try dsimp only at hSw);go_simp <;> with_reducible rfl))));simp only[Act.put,Z01,Z02,Z03,Z06,Z04,Z05])
             refine SeqW.run rfl (fun K hK hP=>?_);go_wp2_with fail
             have hb:=Y9z (Below.refl y1.heap.size y1) (Z00 _) (.cells #[.int .i64 0,.int .i64 0,.int .i64 0,.slice none 0 0] 43);have Zv:=bx (Zy.out.below hb);have Zt:=bx (HC.out.below hb HC.out.lt);have hnx:=Zy.out.s.fp (Z00 y1.heap.size);have hgx:=Bk.new y1 43 #[.int .i64 0,.int .i64 0,.int .i64 0,.slice none 0 0];have hcl:=HC.out.lt;obtain⟨gx,hg⟩:∃gx,y1.heap.size=gx:=⟨_,rfl⟩;obtain⟨y2,hw⟩:∃y2,y1.alloc (.cells #[.int .i64 0,.int .i64 0,.int .i64 0,.slice none 0 0] 43)=y2:=⟨_,rfl⟩;rw[hg,hw];rw[hw]at Zv Zt hgx;rw[hg]at hgx hnx hcl;have Zh:Bx (C<gx):=bx hcl;have Zz:=bx hgx;have Zb:=bx hnx;clear hb hg hw hcl hgx hnx Zy HC;have Zy:=Zv;have HC:=Zt;clear Zv Zt;refine hK.out _ _ ⟨(HC.out.cell 0).trans Ve.out.2.1,(HC.out.cell 1).trans Ve.out.2.2.1⟩ ?_;clear hK hP K;refine SeqW.run rfl (fun K hK hP=>?_);refine wpList_store_row rfl 43 (.tmp 16) (.tmp 176) rfl gx #[.int .i64 ma,.int .i64 ((ptxK R.1 mnm).2:Int),.int .i64 0,.slice none 0 0] rfl rfl 43 #[.int .i64 0,.int .i64 0,.int .i64 0,.slice none 0 0] Zz.out Y3c rfl (Y5s _ _ _) ?_;refine wpList_nil ?_;have hch:=Y9t y2 gx #[.int .i64 ma,.int .i64 ((ptxK R.1 mnm).2:Int),.int .i64 0,.slice none 0 0];have Zv:=bx (Zy.out.far hch (fun k hk=>by have hk:k=gx:=hk;rw[hk];exact⟨Z12 Zh.out,Nat.lt_trans Zc.out Zh.out,Zb.out⟩));have Zt:=bx (HC.out.ch hch (fun e=>by have e:C=gx:=e;have:=Zh.out;omega));have Zu:=bx (Zz.out.setRow #[.int .i64 ma,.int .i64 ((ptxK R.1 mnm).2:Int),.int .i64 0,.slice none 0 0]);clear hch Zy HC Zz;have Zy:=Zv;have HC:=Zt;have Zz:=Zu;clear Zv Zt Zu;refine hK.out _ _ ⟨(HC.out.cell 0).trans Ve.out.2.1,(HC.out.cell 1).trans Ve.out.2.2.1⟩ ?_;clear hK hP K;refine SeqW.done ?_
             (try simp only[Act.put,Z01,Z02,Z03])
             go_wp2
             go_meet
             exact⟨gx,V1,rfl,Zy,HC,Zz,bx ⟨Zh.out,Zb.out,Wa.out⟩⟩
            ·refine SeqW.run rfl (fun K hK hP=>?_)
             go_wp2_with fail
             have hb:=Y9z (Below.refl y0.heap.size y0) (Z00 _) (.cells #[.int .i64 0,.int .i64 0,.int .i64 0,.slice none 0 0] 43);have Zv:=bx (Zy.out.below hb);have Zt:=bx (HC.out.below hb HC.out.lt);have hnx:=Zy.out.s.fp (Z00 y0.heap.size);have hgx:=Bk.new y0 43 #[.int .i64 0,.int .i64 0,.int .i64 0,.slice none 0 0];have hcl:=HC.out.lt;obtain⟨gx,hg⟩:∃gx,y0.heap.size=gx:=⟨_,rfl⟩;obtain⟨y4,hw⟩:∃y4,y0.alloc (.cells #[.int .i64 0,.int .i64 0,.int .i64 0,.slice none 0 0] 43)=y4:=⟨_,rfl⟩;rw[hg,hw];rw[hw]at Zv Zt hgx;rw[hg]at hgx hnx hcl;have Zh:Bx (C<gx):=bx hcl;have Zz:=bx hgx;have Zb:=bx hnx;clear hb hg hw hcl hgx hnx Zy HC;have Zy:=Zv;have HC:=Zt;clear Zv Zt;refine hK.out _ _ ⟨(HC.out.cell 0).trans Ve.out.2.1,(HC.out.cell 1).trans Ve.out.2.2.1⟩ ?_;clear hK hP K;refine SeqW.run rfl (fun K hK hP=>?_);go_wp2_with fail
             refine(Y9k w y4 gk gm _ V R.1 mnm Zy.out.s.mkr Gq.out.1 (by have:=Xy.out.1;omega)).mono ?_
             rintro e y5 ⟨V1,rfl,h3,h4⟩;obtain⟨z1,f1⟩:=Zy.out.call h3 h4;have Zv:=bx z1;have Zt:=bx (HC.out.ch f1.ch Wa.out);have Ww:=bx (f1.far HC.out.lt Wa.out);have Zu:=bx (Zz.out.ch f1.ch Zb.out);have Lp:=bx (f1.far Zz.out.lt Zb.out);clear h3 h4 z1 f1 Zy HC Wa Zz Zb;have Zy:=Zv;have HC:=Zt;have Wa:=Ww;have Zz:=Zu;have Zb:=Lp;clear Zv Zt Ww Zu Lp;go_wp2;refine hK.out _ _ ⟨(HC.out.cell 0).trans Ve.out.2.1,(HC.out.cell 1).trans Ve.out.2.2.1⟩ ?_;clear hK hP K
             iterate 1 (apply SeqW.take;(· rfl);(· (refine Or.inl ⟨?_,?_⟩;(· rfl);(· (intro w hSw;(try dsimp only at hSw);go_simp <;> with_reducible rfl))));simp only[Act.put,Z01,Z02,Z03,Z06,Z04,Z05])
             refine SeqW.run rfl (fun K hK hP=>?_);refine wpList_store_row rfl 43 (.tmp 16) (.tmp 176) rfl gx #[.int .i64 ma,.int .i64 ((ptxK R.1 mnm).2:Int),.int .i64 0,.slice none 0 0] rfl rfl 43 #[.int .i64 0,.int .i64 0,.int .i64 0,.slice none 0 0] Zz.out Y3c rfl (Y5s _ _ _) ?_;refine wpList_nil ?_;have hch:=Y9t y5 gx #[.int .i64 ma,.int .i64 ((ptxK R.1 mnm).2:Int),.int .i64 0,.slice none 0 0];have Zv:=bx (Zy.out.far hch (fun k hk=>by have hk:k=gx:=hk;rw[hk];exact⟨Z12 Zh.out,Nat.lt_trans Zc.out Zh.out,Zb.out⟩));have Zt:=bx (HC.out.ch hch (fun e=>by have e:C=gx:=e;have:=Zh.out;omega));have Zu:=bx (Zz.out.setRow #[.int .i64 ma,.int .i64 ((ptxK R.1 mnm).2:Int),.int .i64 0,.slice none 0 0]);clear hch Zy HC Zz;have Zy:=Zv;have HC:=Zt;have Zz:=Zu;clear Zv Zt Zu;refine hK.out _ _ ⟨(HC.out.cell 0).trans Ve.out.2.1,(HC.out.cell 1).trans Ve.out.2.2.1⟩ ?_;clear hK hP K;refine SeqW.done ?_
             (try simp only[Act.put,Z01,Z02,Z03])
             go_wp2
             go_meet
             exact⟨gx,V1,rfl,Zy,HC,Zz,bx ⟨Zh.out,Zb.out,Wa.out⟩⟩
            -- REG24M }
            -- DEV}
          case rest=>
          obtain⟨gx,V1,rfl,hZ,hC,hX,hN⟩:=hcut;obtain⟨T1,hT1⟩:∃T1,ptxK R.1 mnm=T1:=⟨_,rfl⟩;have hT1l:=Y8t R.1 mnm;rw[hT1]at hZ hX hT1l;have Tp:=bx hT1;have Zh:Bx (C<gx):=bx hN.out.1;have Pw:=bx hN.out.2.1;have Ww:=bx hN.out.2.2;have Lo:Bx (T1.1.length≤5000001):=bx (by have:=Xy.out.1;omega);have Lq:=bx (Y9k w wc gk gm _ V1 T1.1 mds hZ.out.s.mkr Gq.out.2 (by have:=Lo.out;omega));obtain⟨T2,hT2⟩:∃T2,ptxK T1.1 mds=T2:=⟨_,rfl⟩;have hT2l:=Y8t T1.1 mds;rw[hT2]at Lq hT2l;have Se:=bx hT2;have Qw:Bx (T2.1.length≤5000002):=bx (by have:=Lo.out;omega);have c2:wc.cell? ⟨C,2,none⟩=some (.string ⟨mds.toArray⟩):=(hC.out.cell 2).trans Ve.out.2.2.2.1;clear hT1 hT1l hT2 hT2l hN Zy HC Wa;go_step;go_upto_region 35 with(go_at_call 11;refine Lq.out.mono ?_;rintro e wy ⟨V2,rfl,h3,h4⟩;obtain⟨z1,f1⟩:=hZ.out.call h3 h4;have Zv:=bx z1;have Zt:=bx (hC.out.ch f1.ch Ww.out);have Zu:=bx (hX.out.ch f1.ch Pw.out);have Tg:=bx (f1.far hX.out.lt Pw.out);have Pv:=bx (f1.far hC.out.lt Ww.out);clear h3 h4 z1 f1;have hfx:wy.frozen? ⟨gx,2,none⟩=false:=Zu.out.frz 2;have hcx:wy.cell? ⟨gx,2,none⟩=some (.int .i64 0):=(Zu.out.cell 2).trans rfl;have hlx:=Zu.out.lt)
          have hch:=Y9i wy gx 2 (.int .i64 (T2.2:Int));have Ti:=bx (Zv.out.far hch (fun k hk=>by have hk:k=gx:=hk;rw[hk];exact⟨Z12 Zh.out,Nat.lt_trans Zc.out Zh.out,Tg.out⟩));have Yr:=bx (Zt.out.ch hch (fun e=>by have e:C=gx:=e;have:=Zh.out;omega));have Ss:Bx (Bk (wy.setCell ⟨gx,2,none⟩ (.int .i64 (T2.2:Int))) gx 43 #[.int .i64 ma,.int .i64 (T1.2:Int),.int .i64 (T2.2:Int),.slice none 0 0]):=bx ((Zu.out.set 2 (.int .i64 (T2.2:Int))).trans rfl);clear hch hfx hcx hlx Zv Zt Zu hZ hC hX c2 Lq Pw Ww;generalize wy.setCell ⟨gx,2,none⟩ (.int .i64 (T2.2:Int))=wd at Ti Yr Ss ⊢;have c3:wd.cell? ⟨C,3,none⟩=some (.bool mth):=(Yr.out.cell 3).trans Ve.out.2.2.2.2
          go_upto_if 183 with(fail)
          clear c3
          go_cut [17] from 183 to 192 (fun _ wx=>∃(V3:Value) (P3:List Cst) (x:MmE),Bx (mmtK R.1 mp=(P3,[x.p]))∧Bx (MkZ w wx C g1 g2 X gk gm (T.2:Int) (Q.2:Int) V3 I F M P3 R1.2 fs ms)∧Bx (Bk wx gx 43 #[.int .i64 x.access,.int .i64 x.name,.int .i64 x.desc,.slice x.A x.n x.c])∧Bx (MmX wx (MkB w wx.heap.size gk gm V3 I F M) x)∧Bx (¬MkG gk gm V3 I F M gx))
          case first=>
           -- DEV{ r37
           cases mth with
           | false=>
            have Gp:Bx (mmtK R.1 mp=(T2.1,[(⟨ma,T1.2,T2.2,none,0,0,[]⟩:MmE).p])):=bx (by
             unfold mmtK;dsimp only;rw[Xa.out.2.2.2,if_pos rfl,Xa.out.1,Xa.out.2.1,Xa.out.2.2.1,Tp.out,Se.out]
             rfl)
            have Qv:Bx (MmX wd (MkB w wd.heap.size gk gm V2 I F M) ⟨ma,T1.2,T2.2,none,0,0,[]⟩):=bx X6r;go_wp2
            go_meet
            case rel=>exact⟨V2,T2.1,⟨ma,T1.2,T2.2,none,0,0,[]⟩,Gp,Ti,Ss,Qv,Tg⟩
           | true=>
            obtain⟨T3,hT3⟩:∃T3,ptxK T2.1 cdN=T3:=⟨_,rfl⟩;obtain⟨D,hD⟩:∃D,mcdK T3.1 mp=D:=⟨_,rfl⟩;have hT3l:=Y8t T2.1 cdN;have Kl:=bx (Y9k w wd gk gm _ V2 T2.1 cdN Ti.out.s.mkr (by decide) (by have:=Qw.out;omega));rw[hT3]at Kl hT3l;have HT3:=bx hT3;have HD:=bx hD;have I5:Bx (T3.1.length≤5000003):=bx (by have:=Qw.out;omega);clear hT3 hD hT3l;go_upto_region 37 with(go_at_call 11;refine Kl.out.mono ?_;rintro e w4 ⟨V3,rfl,h3,h4⟩;obtain⟨z1,f1⟩:=Ti.out.call h3 h4;have Nx:=bx z1;have Yw:=bx (Yr.out.ch f1.ch Pv.out);have Pn:=bx (Ss.out.ch f1.ch Tg.out);have Wv:=bx (f1.far Ss.out.lt Tg.out);have HNC3:=bx (f1.far Yr.out.lt Pv.out);clear h3 h4 z1 f1)
            have Bt:=bx (I7.out w4 V3 T3.1 _ _ M Nx.out.s.mkr (by have:=I5.out;omega));rw[HD.out]at Bt;clear Ti Yr Ss Kl
            go_wp2_with (first
             | (refine wpList_load_row rfl 51 (.tmp 15) rfl C rfl _ CM _ _ Yw.out Tryd.underlying51 rfl (by rw[Ve.out.1];exact Y6h) ?_)
             | (go_at_call 13;refine Bt.out.mono ?_;rintro e w5 ⟨V4,v9,rfl,h5,f5⟩;obtain⟨A9,n9,c9,hv9,hq1,hq2⟩:=OwL.sl h5.ow;subst hv9;clear hq1 hq2;obtain⟨z1,f1⟩:=Nx.out.call h5.mkr (f5.less (fun k e => .inl e));have Mn:=bx z1;have Pp:=bx (Pn.out.ch f1.ch Wv.out);have X0:=bx (f1.far Pn.out.lt Wv.out);have Wl:Bx (∀k,Fow (.slice A9 n9 c9) k→gx<k∧¬MkG gk gm V4 I F M k):=bx (fun k e=>by
               have hk:=(World.ownsRow.lt h5.ow k e).1;refine⟨Z07 Pn.out.lt hk,fun e2=>?_⟩;rcases e2 with e2 | e2
               ·exact h5.ne k e e2
               ·have:=(Nx.out.s.foot k (.inr e2)).2
                omega);have Ro:=bx h5.ow;clear h5 f5 z1 f1;have hb:=Y9z (Below.refl w5.heap.size w5) (Z00 _) (.cells #[.int .i64 (T3.2:Int),.slice A9 n9 c9] 41);have hka:=Bk.new w5 41 #[.int .i64 (T3.2:Int),.slice A9 n9 c9];have hnm:=Mn.out.s.fp (Z00 w5.heap.size);have hxl:=Pp.out.lt;obtain⟨ga,hga⟩:∃ga,w5.heap.size=ga:=⟨_,rfl⟩;obtain⟨wz,hwz⟩:∃wz,w5.alloc (.cells #[.int .i64 (T3.2:Int),.slice A9 n9 c9] 41)=wz:=⟨_,rfl⟩;have Df:=bx (Mn.out.below hb);have Ya:=bx (Pp.out.below hb Pp.out.lt);have Fu:=bx (Ro.out.below hb);rw[hwz]at Df Ya Fu hka;rw[hga]at hka hnm hxl;have Cp:=bx hka;have Sr:=bx hnm;have Xw:Bx (gx<ga):=bx hxl;clear hb hka hnm hxl Mn Pp Ro;have hf3:wz.frozen? ⟨gx,3,none⟩=false:=Ya.out.frz 3;have hlx:=Ya.out.lt;have hc3:wz.cell? ⟨gx,3,none⟩=some (.slice none 0 0):=(Ya.out.cell 3).trans rfl))
            have hch:=Y9i wz gx 3 (.slice (some ⟨ga,0,none⟩) 1 1);have Rq:=bx (Df.out.far hch (fun k hk=>by have hk:k=gx:=hk;rw[hk];exact⟨Z12 Zh.out,Nat.lt_trans Zc.out Zh.out,X0.out⟩));have Xr:Bx (Bk (wz.setCell ⟨gx,3,none⟩ (.slice (some ⟨ga,0,none⟩) 1 1)) gx 43 #[.int .i64 ma,.int .i64 (T1.2:Int),.int .i64 (T2.2:Int),.slice (some ⟨ga,0,none⟩) 1 1]):=bx ((Ya.out.set 3 (.slice (some ⟨ga,0,none⟩) 1 1)).trans rfl);have Je:=bx (OwL.ch Fu.out hch (fun k e e2=>by have e2:k=gx:=e2;have:=(Wl.out k e).1;omega));have W9:=bx (Cp.out.ch hch (fun e=>by have e:ga=gx:=e;have:=Xw.out;omega));have hmm:=Y4z (X:=MkB w _ gk gm V4 I F M) (a:=ma) (b:=T1.2) (d:=T2.2) W9.out ⟨⟨Z08 Rq.out.e.lo.1 (Z12 (Nat.lt_trans Rq.out.e.lo.2 (Nat.lt_trans Zc.out (Nat.lt_trans Zh.out Xw.out)))),Nat.lt_trans Vv.out (Nat.lt_trans Zh.out Xw.out)⟩,W9.out.lt,Sr.out⟩ Je.out (fun k e=>⟨⟨by have:=(Wl.out k e).1;have:=Rq.out.e.lo;have:=Zc.out;have:=Zh.out;omega,by have:=(Wl.out k e).1;have:=Vv.out;have:=Zh.out;omega⟩,(World.ownsRow.lt Je.out k e).2,(Wl.out k e).2⟩);have Qv:=bx hmm
            have Gp:Bx (mmtK R.1 mp=(D.1,[(⟨ma,T1.2,T2.2,some ⟨ga,0,none⟩,1,1,[⟨T3.2,⟨A9,n9,c9,D.2⟩⟩]⟩:MmE).p])):=bx (by
             unfold mmtK;dsimp only;rw[Xa.out.2.2.2,if_neg (by decide),Xa.out.1,Xa.out.2.1,Xa.out.2.2.1,Tp.out,Se.out,HT3.out,HD.out]
             rfl)
            clear hch hf3 hlx hc3 hmm
            go_meet
            case rel=>exact⟨V4,D.1,⟨ma,T1.2,T2.2,some ⟨ga,0,none⟩,1,1,[⟨T3.2,⟨A9,n9,c9,D.2⟩⟩]⟩,Gp,Rq,Xr,Qv,X0⟩
           -- DEV}
          case rest=>
          obtain⟨V3,P3,x,hFE,hZ,hX,hM,hN⟩:=hcut;have Rr:Bx (rowK mmtK R2.1 ((ml.take (i+1)).map MtE.p)=(P3,R.2++[x.p])):=bx (by rw[Zb.out,hFE.out]);have Tz:=bx hN.out;clear hFE hN Ti Yr Ss Tg Pv;go_step;go_upto_region 38 with(fail)
          have Zy:Bx (MkZ w wc.drew C g1 g2 X gk gm (T.2:Int) (Q.2:Int) V3 I F M P3 R1.2 fs ms):=bx (hZ.out.below (below_drewN (Below.refl wc.heap.size wc) 1));have Zz:Bx (Bk wc.drew gx 43 #[.int .i64 x.access,.int .i64 x.name,.int .i64 x.desc,.slice x.A x.n x.c]):=bx (hX.out.drewN 1);have Xc:Bx (MmX wc.drew (MkB w wc.drew.heap.size gk gm V3 I F M) x):=bx hM.out;clear hZ hX hM
          -- DEV{ r38
          -- REG28M {
          refine Y9x (S:=fun w'=>w'.cell? ⟨gx,0,none⟩=some (.int .i64 x.access)∧w'.cell? ⟨gx,1,none⟩=some (.int .i64 x.name)∧w'.cell? ⟨gx,2,none⟩=some (.int .i64 x.desc)∧w'.cell? ⟨gx,3,none⟩=some (.slice x.A x.n x.c)) (.tk 0 (.tk 1 (.tk 2 (.tk 3 (.tk 4 (.tk 6 (.alt 5 (.rn 7 (.rn 8 (.tk 9 (.tk 10 (.tk 11 (.rn 12 .fin)))))) (.alt 7 (.rn 5 (.rn 8 (.tk 9 (.tk 10 (.tk 11 (.rn 12 .fin)))))) .non)))))))) (by kernel_rfl) (by kernel_rfl) (by kernel_rfl) (fun _ _ _ _ h=>h) ⟨(Zz.out.cell 0).trans rfl,(Zz.out.cell 1).trans rfl,(Zz.out.cell 2).trans rfl,(Zz.out.cell 3).trans rfl⟩ ?_;generalize wc.drew=y0 at Zy Zz Xc ⊢
          iterate 6 (apply SeqW.take;(· rfl);(· (refine Or.inl ⟨?_,?_⟩;(· rfl);(· (intro w hSw;(try dsimp only at hSw);go_simp <;> with_reducible rfl))));simp only[Act.put,Z01,Z02,Z03,Z06,Z04,Z05])
          refine SeqW.both rfl (fun K hK hP=>?_) ?_
          ·have k7:y0.cell? ⟨gk,8,none⟩=some M:=Zy.out.s.c8
           go_wp2_with fail
           refine hK.out _ _ ⟨(Zz.out.cell 0).trans rfl,(Zz.out.cell 1).trans rfl,(Zz.out.cell 2).trans rfl,(Zz.out.cell 3).trans rfl⟩ ?_;clear hK hP K k7;refine SeqW.run rfl (fun K hK hP=>?_);go_wp2_with fail
           have hb:=Y9z (Below.refl y0.heap.size y0) (Z00 _) (.cells #[.int .i64 x.access,.int .i64 x.name,.int .i64 x.desc,.slice x.A x.n x.c] 43);have Zv:=bx (Zy.out.below hb);have Zu:=bx (Zz.out.below hb Zz.out.lt);have Xt:Bx (MmX (y0.alloc (.cells #[.int .i64 x.access,.int .i64 x.name,.int .i64 x.desc,.slice x.A x.n x.c] 43)) (MkB w (y0.alloc (.cells #[.int .i64 x.access,.int .i64 x.name,.int .i64 x.desc,.slice x.A x.n x.c] 43)).heap.size gk gm V3 I F M) x):=bx (Xc.out.step (fun k hk=>hb.block k hk.2.1) (fun k hk=>⟨hk.1,Z07 hk.2.1 hb.size,hk.2.2⟩));have hnw:=RS.top (RS.new (fC:=memC) y0 x #[.int .i64 x.access,.int .i64 x.name,.int .i64 x.desc,.slice x.A x.n x.c] rfl 43 (0,0));obtain⟨gz,hg⟩:∃gz,y0.heap.size=gz:=⟨_,rfl⟩;obtain⟨y2,hw⟩:∃y2,y0.alloc (.cells #[.int .i64 x.access,.int .i64 x.name,.int .i64 x.desc,.slice x.A x.n x.c] 43)=y2:=⟨_,rfl⟩;rw[hg,hw];rw[hw]at Zv Zu Xt hnw;rw[hg]at hnw;clear hb hg hw Zy Zz Xc;have Zy:=Zv;have Zz:=Zu;have Xc:=Xt;have Vb:=bx hnw;clear Zv Zu Xt hnw;refine hK.out _ _ ⟨(Zz.out.cell 0).trans rfl,(Zz.out.cell 1).trans rfl,(Zz.out.cell 2).trans rfl,(Zz.out.cell 3).trans rfl⟩ ?_;clear hK hP K;refine SeqW.run rfl (fun K hK hP=>?_);refine Y9y _ memCels rfl (.tmp 198) (.tmp 200) rfl memTy (by decide) w.heap.size M ms rfl Zy.out.s.m y2.heap.size (some ⟨gz,0,none⟩) 1 1 [x] rfl rfl Vb.out (by have:=Xy.out.2;simp only[Z11,Z13];omega) Zy.out.e.bel.size ?_;intro V7 y3 hO hg hv hbb;clear hbb;obtain⟨A7,c7,e7,hq1,hq2⟩:=hO.rd;clear hq1 hq2;obtain⟨n7,hn7⟩:∃n7,(ms++[x]).length=n7:=⟨_,rfl⟩;rw[hn7]at e7;subst e7;clear hn7;obtain⟨a1,a2,a3⟩:=Zy.out.s.appM Xc.out hO hg hv;have Wh:=bx a1;have Nl:=bx (Zy.out.on a2 a3);have Zu:Bx (Bk y3 gx 43 #[.int .i64 x.access,.int .i64 x.name,.int .i64 x.desc,.slice x.A x.n x.c]):=bx (Zz.out.grown hg (fun e=>Tz.out (.inr (.inr (.inr e.symm)))));have Rs:Bx (gk≠gx):=bx (fun e=>Tz.out (.inl (.inl e.symm)));clear a1 a2 a3 hO hg hv Zy Zz;have Zz:=Zu;clear Zu;refine wpList_nil ?_;refine hK.out _ _ ⟨(Zz.out.cell 0).trans rfl,(Zz.out.cell 1).trans rfl,(Zz.out.cell 2).trans rfl,(Zz.out.cell 3).trans rfl⟩ ?_;clear hK hP K
           iterate 3 (apply SeqW.take;(· rfl);(· (refine Or.inl ⟨?_,?_⟩;(· rfl);(· (intro w hSw;(try dsimp only at hSw);go_simp <;> with_reducible rfl))));simp only[Act.put,Z01,Z02,Z03,Z06,Z04,Z05])
           refine SeqW.run rfl (fun K hK hP=>?_);have hf6:y3.frozen? ⟨gk,8,none⟩=false:=Wh.out.frz 8;have hlk:=Wh.out.lt;have hk6:y3.cell? ⟨gk,8,none⟩=some M:=(Wh.out.cell 8).trans rfl;go_wp2_with fail
           have Zu:=bx (Zz.out.far (p:=⟨gk,8,none⟩) (fun e=>Rs.out e.symm) (.slice A7 n7 c7));clear Zz;have Zz:=Zu;refine hK.out _ _ ⟨(Zz.out.cell 0).trans rfl,(Zz.out.cell 1).trans rfl,(Zz.out.cell 2).trans rfl,(Zz.out.cell 3).trans rfl⟩ ?_;clear hK hP K hf6 hlk hk6 Wh Zu;refine SeqW.done ?_
           (try simp only[Act.put])
           go_wp2;go_roundw
           case rel=>
            refine⟨i+1,y2.heap.size,V3,.slice A7 n7 c7,ms++[x],by omega,by go_num,bx ?_,bx ?_⟩
            ·rw[Rr.out,Z34,Nk.out]
             rfl
            ·rw[Rr.out]
             exact Nl.out
           case measure=>simp [intOf];omega
          ·refine SeqW.run rfl (fun K hK hP=>?_)
           go_wp2_with fail
           have hb:=Y9z (Below.refl y0.heap.size y0) (Z00 _) (.cells #[.int .i64 x.access,.int .i64 x.name,.int .i64 x.desc,.slice x.A x.n x.c] 43);have Zv:=bx (Zy.out.below hb);have Zu:=bx (Zz.out.below hb Zz.out.lt);have Xt:Bx (MmX (y0.alloc (.cells #[.int .i64 x.access,.int .i64 x.name,.int .i64 x.desc,.slice x.A x.n x.c] 43)) (MkB w (y0.alloc (.cells #[.int .i64 x.access,.int .i64 x.name,.int .i64 x.desc,.slice x.A x.n x.c] 43)).heap.size gk gm V3 I F M) x):=bx (Xc.out.step (fun k hk=>hb.block k hk.2.1) (fun k hk=>⟨hk.1,Z07 hk.2.1 hb.size,hk.2.2⟩));have hnw:=RS.top (RS.new (fC:=memC) y0 x #[.int .i64 x.access,.int .i64 x.name,.int .i64 x.desc,.slice x.A x.n x.c] rfl 43 (0,0));obtain⟨gz,hg⟩:∃gz,y0.heap.size=gz:=⟨_,rfl⟩;obtain⟨y5,hw⟩:∃y5,y0.alloc (.cells #[.int .i64 x.access,.int .i64 x.name,.int .i64 x.desc,.slice x.A x.n x.c] 43)=y5:=⟨_,rfl⟩;rw[hg,hw];rw[hw]at Zv Zu Xt hnw;rw[hg]at hnw;clear hb hg hw Zy Zz Xc;have Zy:=Zv;have Zz:=Zu;have Xc:=Xt;have Vb:=bx hnw;clear Zv Zu Xt hnw;refine hK.out _ _ ⟨(Zz.out.cell 0).trans rfl,(Zz.out.cell 1).trans rfl,(Zz.out.cell 2).trans rfl,(Zz.out.cell 3).trans rfl⟩ ?_;clear hK hP K;refine SeqW.run rfl (fun K hK hP=>?_);have k7:y5.cell? ⟨gk,8,none⟩=some M:=Zy.out.s.c8;go_wp2_with fail
           refine hK.out _ _ ⟨(Zz.out.cell 0).trans rfl,(Zz.out.cell 1).trans rfl,(Zz.out.cell 2).trans rfl,(Zz.out.cell 3).trans rfl⟩ ?_;clear hK hP K k7;refine SeqW.run rfl (fun K hK hP=>?_);refine Y9y _ memCels rfl (.tmp 198) (.tmp 200) rfl memTy (by decide) w.heap.size M ms rfl Zy.out.s.m y5.heap.size (some ⟨gz,0,none⟩) 1 1 [x] rfl rfl Vb.out (by have:=Xy.out.2;simp only[Z11,Z13];omega) Zy.out.e.bel.size ?_;intro V7 y7 hO hg hv hbb;clear hbb;obtain⟨A7,c7,e7,hq1,hq2⟩:=hO.rd;clear hq1 hq2;obtain⟨n7,hn7⟩:∃n7,(ms++[x]).length=n7:=⟨_,rfl⟩;rw[hn7]at e7;subst e7;clear hn7;obtain⟨a1,a2,a3⟩:=Zy.out.s.appM Xc.out hO hg hv;have Wh:=bx a1;have Nl:=bx (Zy.out.on a2 a3);have Zu:Bx (Bk y7 gx 43 #[.int .i64 x.access,.int .i64 x.name,.int .i64 x.desc,.slice x.A x.n x.c]):=bx (Zz.out.grown hg (fun e=>Tz.out (.inr (.inr (.inr e.symm)))));have Rs:Bx (gk≠gx):=bx (fun e=>Tz.out (.inl (.inl e.symm)));clear a1 a2 a3 hO hg hv Zy Zz;have Zz:=Zu;clear Zu;refine wpList_nil ?_;refine hK.out _ _ ⟨(Zz.out.cell 0).trans rfl,(Zz.out.cell 1).trans rfl,(Zz.out.cell 2).trans rfl,(Zz.out.cell 3).trans rfl⟩ ?_;clear hK hP K
           iterate 3 (apply SeqW.take;(· rfl);(· (refine Or.inl ⟨?_,?_⟩;(· rfl);(· (intro w hSw;(try dsimp only at hSw);go_simp <;> with_reducible rfl))));simp only[Act.put,Z01,Z02,Z03,Z06,Z04,Z05])
           refine SeqW.run rfl (fun K hK hP=>?_);have hf6:y7.frozen? ⟨gk,8,none⟩=false:=Wh.out.frz 8;have hlk:=Wh.out.lt;have hk6:y7.cell? ⟨gk,8,none⟩=some M:=(Wh.out.cell 8).trans rfl;go_wp2_with fail
           have Zu:=bx (Zz.out.far (p:=⟨gk,8,none⟩) (fun e=>Rs.out e.symm) (.slice A7 n7 c7));clear Zz;have Zz:=Zu;refine hK.out _ _ ⟨(Zz.out.cell 0).trans rfl,(Zz.out.cell 1).trans rfl,(Zz.out.cell 2).trans rfl,(Zz.out.cell 3).trans rfl⟩ ?_;clear hK hP K hf6 hlk hk6 Wh Zu;refine SeqW.done ?_
           (try simp only[Act.put])
           go_wp2;go_roundw
           case rel=>
            refine⟨i+1,y5.heap.size,V3,.slice A7 n7 c7,ms++[x],by omega,by go_num,bx ?_,bx ?_⟩
            ·rw[Rr.out,Z34,Nk.out]
             rfl
            ·rw[Rr.out]
             exact Nl.out
           case measure=>simp [intOf];omega
          -- REG28M }
          -- DEV}
          -- DEV}
         ·obtain rfl:i=mn:=by omega
          have hiI:¬(i:Int)<(i:Int):=(by omega);obtain⟨R3,hR3⟩:∃R3,rowK mmtK R2.1 (ml.map MtE.p)=R3:=⟨_,rfl⟩;have hta:(ml.take i).map MtE.p=ml.map MtE.p:=(by rw[Z15 (by rw[Cd.out.1];exact Z00 _)]);rw[hta,hR3]at Nk HZ;obtain⟨pA,pc,hvp,hrp,hcp⟩:=OwS.rd HZ.out.s.mkr.own;obtain⟨eA,ec,hvi,hri,hci,hmi⟩:=OwL.rd HZ.out.s.i;obtain⟨uA,uc,hvf,hrf,hcf⟩:=OwS.rd HZ.out.s.f;obtain⟨vA,vc,hvm,hrm,hcm⟩:=OwS.rd HZ.out.s.m;obtain⟨y,hy⟩:∃y:ImE,(⟨0,52,pA,R3.1.length,pc,R3.1,ac,T.2,Q.2,eA,R1.2.length,ec,R1.2,uA,fs.length,uc,fs,vA,ms.length,vc,ms,none,0,0,[]⟩:ImE)=y:=⟨_,rfl⟩
          have Gn:Bx (y.p=mimK X.p pl∧y.pool=R3.1):=bx ⟨by
           rw[←hy];show (⟨0,52,R3.1,ac,T.2,Q.2,R1.2,fs.map MmE.p,ms.map MmE.p,[]⟩:Img)=_;unfold mimK;dsimp only;have e1:X.p.name=nm:=Sc.out.2.1;have e2:X.p.super=su:=Sc.out.2.2.1;have e3:X.p.ifaces=il:=by show X.ifs.l=_;rw[Sc.out.2.2.2.1]
           have e4:X.p.fields=fl:=by show X.fls.l=_;rw[Sc.out.2.2.2.2.1]
           have e5:X.p.methods=ml.map MtE.p:=by show X.mts.l.map MtE.p=_;rw[Sc.out.2.2.2.2.2.1]
           rw[e1,e2,e3,e4,e5,←Rn.out.2,HTE.out,X7.out,Xd.out,Wx.out,hR3,I8.out,Nk.out,Dg.out],by rw[←hy]⟩
          have U4:Bx (V = .slice y.pA y.pn y.pc∧I = .slice y.iA y.i_n y.ic∧F = .slice y.fA y.fn y.fc∧M = .slice y.mA y.mn y.mc):=bx (by rw[←hy];exact⟨hvp,hvi,hvf,hvm⟩);have Gm:Bx (y.minor=0∧y.major=52∧y.access=ac∧y.this=T.2∧y.super=Q.2∧y.as_=[]∧y.aA=none∧y.an=0∧y.ac=0∧y.ifs=R1.2∧y.fs=fs∧y.ms=ms):=bx (by rw[←hy];exact⟨rfl,rfl,rfl,rfl,rfl,rfl,rfl,rfl,rfl,rfl,rfl,rfl⟩)
          have D0:Bx (imC y=#[.int .i64 0,.int .i64 52,V,.int .i64 ac,.int .i64 (T.2:Int),.int .i64 (Q.2:Int),I,F,M,.slice none 0 0]):=bx (by
           rw[hvp,hvi,hvf,hvm,←hy]
           rfl)
          have hsubF:∀z∈fs,MmB wr wr.heap.size z:=fun z hz=>(HZ.out.s.sub z (.inl hz)).mmB (fun k hk=>Z07 hk.2.1 HZ.out.s.bb);have hsubM:∀z∈ms,MmB wr wr.heap.size z:=fun z hz=>(HZ.out.s.sub z (.inr hz)).mmB (fun k hk=>Z07 hk.2.1 HZ.out.s.bb);have Qi:Bx (RIm wr wr.heap.size y):=bx (by rw[←hy];exact⟨hrp,⟨rfl,hcp,own_cap HZ.out.s.mkr.own hvp⟩,hri,⟨rfl,hci,hmi⟩,⟨hrf,hsubF⟩,⟨rfl,hcf,own_cap HZ.out.s.f hvf⟩,⟨hrm,hsubM⟩,⟨rfl,hcm,own_cap HZ.out.s.m hvm⟩,RA.nil,⟨rfl,Z00 _,by show ((0:Nat):Int)≤_;omega⟩⟩)
          have hOF:=X9e y wr Qi.out (fun c hc=>by
           rw[Gn.out.2]at hc
           have:=HZ.out.s.mkr.cb c hc
           exact⟨this.tag,this.text⟩) ⟨Z07 Xc.out.1 HZ.out.e.bel.size,by
           obtain⟨mx,hmx⟩:=Xc.out.2;exact⟨mx,(HZ.out.e.bel.cell (p:=⟨0,0,none⟩) Xc.out.1).trans hmx⟩⟩
          unfold OfPost at hOF;rw[D0.out]at hOF;obtain⟨O,hO⟩:∃O,ofP y.p=O:=⟨_,rfl⟩;rw[hO]at hOF;have Kv:=bx hOF;have I4:Bx (W=if O=some X.p then some y.p else none):=bx (by rw[←HW.out];unfold makeK;rw[←Gn.out.1,hO];simp only[HQ.out,true_and]);have k0:wr.cell? ⟨gk,0,none⟩=some (.int .i64 0):=(HZ.out.s.mkr.box.cell 0).trans rfl;have k1:wr.cell? ⟨gk,1,none⟩=some (.int .i64 52):=(HZ.out.s.mkr.box.cell 1).trans rfl;have k2:wr.cell? ⟨gk,2,none⟩=some V:=(HZ.out.s.mkr.box.cell 2).trans rfl;have k3:wr.cell? ⟨gk,3,none⟩=some (.int .i64 ac):=(HZ.out.s.mkr.box.cell 3).trans (by show some (Value.int .i64 X.access)=_;rw[Sc.out.1]);have k4:wr.cell? ⟨gk,4,none⟩=some (.int .i64 (T.2:Int)):=(HZ.out.s.mkr.box.cell 4).trans rfl;have k5:wr.cell? ⟨gk,5,none⟩=some (.int .i64 (Q.2:Int)):=(HZ.out.s.mkr.box.cell 5).trans rfl;have k6:wr.cell? ⟨gk,6,none⟩=some I:=(HZ.out.s.mkr.box.cell 6).trans rfl;have k7:wr.cell? ⟨gk,7,none⟩=some F:=(HZ.out.s.mkr.box.cell 7).trans rfl;have k8:wr.cell? ⟨gk,8,none⟩=some M:=(HZ.out.s.mkr.box.cell 8).trans rfl;have k9:wr.cell? ⟨gk,9,none⟩=some (.slice none 0 0):=(HZ.out.s.mkr.box.cell 9).trans rfl;clear hR3 hta hvp hrp hcp hvi hri hci hmi hvf hrf hcf hvm hrm hcm hy hsubF hsubM hOF hO hmn64;cases O with
          | none=>
           have Gx:Bx (W=none):=bx (by rw[I4.out,if_neg (by intro h;cases h)])
           go_wp2_with (first
            | (go_at_call 6;refine Kv.out.mono ?_;rintro e w5 ⟨rfl,hb5⟩;have U5:=bx (HZ.out.e.below hb5);clear hb5;unfold z7)
            | (refine wpList_store_row rfl 34 (.tmp 2) (.tmp 222) rfl g2 imZ rfl rfl 34 imZ (U5.out.below (Y9z (Below.refl _ _) (Z00 _) _)).b2 Y9p rfl Y5d ?_))
           have I3:=U5.out.below (Y9z (Below.refl w5.heap.size w5) (Z00 _) (.cells #[.int .i64 0,.string ⟨#[]⟩,.string ⟨#[]⟩,.slice none 0 0,.slice none 0 0,.slice none 0 0,.slice none 0 0] 27));exact bodyPost_ret (v := .tuple #[.agg imZ,.int .i64 24]) (Y7s _ _ g2 imZ rfl (I3.b2.setRow imZ) rfl) rfl ⟨by rw[Gx.out],bl_setRow I3.bel (by have:=I3.lo;omega) _⟩
          | some d=>
           go_upto_region 41 with(go_at_call 6;refine Kv.out.mono ?_;rintro e w5 ⟨⟨yc,hc1,hc2,hc3,rfl⟩,hb5⟩;have Df:=bx (HZ.out.below hb5);have W8:=bx hc1;have U3:=bx hc3;have Za:=bx hb5;clear hb5 hc1 hc2 hc3;unfold clA strQ Sq.v)
           obtain⟨g18,hg18⟩:∃g18,w5.heap.size=g18:=⟨_,rfl⟩;have hk18:=Bk.newAt w5 27 #[.int .i64 yc.access,.string ⟨yc.name.toArray⟩,.string ⟨yc.super.toArray⟩,.slice yc.ifs.A yc.ifs.n yc.ifs.c,.slice yc.fls.A yc.fls.n yc.fls.c,.slice yc.mts.A yc.mts.n yc.mts.c,.slice yc.pool.A yc.pool.n yc.pool.c] hg18;have hb6:=Y9z (Below.refl w5.heap.size w5) (Z00 _) (.cells #[.int .i64 yc.access,.string ⟨yc.name.toArray⟩,.string ⟨yc.super.toArray⟩,.slice yc.ifs.A yc.ifs.n yc.ifs.c,.slice yc.fls.A yc.fls.n yc.fls.c,.slice yc.mts.A yc.mts.n yc.mts.c,.slice yc.pool.A yc.pool.n yc.pool.c] 27)
           (try rw[hg18])
           generalize w5.alloc (.cells #[.int .i64 yc.access,.string ⟨yc.name.toArray⟩,.string ⟨yc.super.toArray⟩,.slice yc.ifs.A yc.ifs.n yc.ifs.c,.slice yc.fls.A yc.fls.n yc.fls.c,.slice yc.mts.A yc.mts.n yc.mts.c,.slice yc.pool.A yc.pool.n yc.pool.c] 27)=w6 at hk18 hb6 ⊢;have Pu:Bx (Bk w6 g18 27 (clA yc)):=bx hk18;have Rq:=bx (Df.out.below hb6);have hX6:ClX w6 (fun k=>k<w6.heap.size) X:=HX.out.step (fun k hk=>Rq.out.e.bel.block k hk) (fun k hk=>Z07 hk Rq.out.e.bel.size);have hY6:ClX w6 (fun k=>k<w6.heap.size) yc:=U3.out.step (fun k hk=>hb6.block k hk.2) (fun k hk=>Z07 hk.2 hb6.size);have hsm:=X6t X yc w6 hX6 hY6;obtain⟨q9,hq9⟩:∃q9,decide (X.p=yc.p)=q9:=⟨_,rfl⟩;rw[hq9]at hsm;have Pg:=bx hsm;have Tb:=bx hq9;clear hg18 hk18 hb6 hX6 hY6 hsm hq9;have x0:w6.cell? ⟨g1,0,none⟩=some (.int .i64 X.access):=(Rq.out.e.b1.cell 0).trans rfl;have x1:w6.cell? ⟨g1,1,none⟩=some (.string ⟨X.name.toArray⟩):=(Rq.out.e.b1.cell 1).trans rfl;have x2:w6.cell? ⟨g1,2,none⟩=some (.string ⟨X.super.toArray⟩):=(Rq.out.e.b1.cell 2).trans rfl;have x3:w6.cell? ⟨g1,3,none⟩=some (.slice X.ifs.A X.ifs.n X.ifs.c):=(Rq.out.e.b1.cell 3).trans rfl;have x4:w6.cell? ⟨g1,4,none⟩=some (.slice X.fls.A X.fls.n X.fls.c):=(Rq.out.e.b1.cell 4).trans rfl;have x5:w6.cell? ⟨g1,5,none⟩=some (.slice X.mts.A X.mts.n X.mts.c):=(Rq.out.e.b1.cell 5).trans rfl;have x6:w6.cell? ⟨g1,6,none⟩=some (.slice X.pool.A X.pool.n X.pool.c):=(Rq.out.e.b1.cell 6).trans rfl;have z0:w6.cell? ⟨g18,0,none⟩=some (.int .i64 yc.access):=(Pu.out.cell 0).trans rfl;have z1:w6.cell? ⟨g18,1,none⟩=some (.string ⟨yc.name.toArray⟩):=(Pu.out.cell 1).trans rfl;have z2:w6.cell? ⟨g18,2,none⟩=some (.string ⟨yc.super.toArray⟩):=(Pu.out.cell 2).trans rfl;have z3:w6.cell? ⟨g18,3,none⟩=some (.slice yc.ifs.A yc.ifs.n yc.ifs.c):=(Pu.out.cell 3).trans rfl;have z4:w6.cell? ⟨g18,4,none⟩=some (.slice yc.fls.A yc.fls.n yc.fls.c):=(Pu.out.cell 4).trans rfl;have z5:w6.cell? ⟨g18,5,none⟩=some (.slice yc.mts.A yc.mts.n yc.mts.c):=(Pu.out.cell 5).trans rfl;have z6:w6.cell? ⟨g18,6,none⟩=some (.slice yc.pool.A yc.pool.n yc.pool.c):=(Pu.out.cell 6).trans rfl;cases q9 with
           | false=>
            have Gx:Bx (W=none):=bx (by
             rw[I4.out,if_neg (fun h=>by
              injection h with h
              exact of_decide_eq_false Tb.out (by rw[W8.out,h]))])
            go_wp2_with (first
             | (go_at_call 14;refine Pg.out.mono ?_;rintro e w7 ⟨rfl,hb7⟩;have Sx:=bx (Rq.out.below hb7);clear hb7)
             | (refine wpList_store_row rfl 34 (.tmp 2) (.tmp 222) rfl g2 imZ rfl rfl 34 imZ Sx.out.e.b2 Y9p rfl Y5d ?_))
            exact bodyPost_ret (v := .tuple #[.agg imZ,.int .i64 24]) (Y7s _ _ g2 imZ rfl (Sx.out.e.b2.setRow imZ) rfl) rfl ⟨by rw[Gx.out],bl_setRow Sx.out.e.bel (by have:=Sx.out.e.lo;omega) _⟩
           | true=>
            have Wu:Bx (W=some y.p):=bx (by rw[I4.out,if_pos (by rw[Z49 Tb.out,W8.out])]);go_upto_region 43 with(go_at_call 14;refine Pg.out.mono ?_;rintro e w7 ⟨rfl,hb7⟩;have Sx:=bx (Rq.out.below hb7);clear hb7)
            clear k0 k1 k2 k3 k4 k5 k6 k7 k8 k9 x0 x1 x2 x3 x4 x5 x6 z0 z1 z2 z3 z4 z5 z6;have k0:w7.cell? ⟨gk,0,none⟩=some (.int .i64 0):=(Sx.out.s.mkr.box.cell 0).trans rfl;have k1:w7.cell? ⟨gk,1,none⟩=some (.int .i64 52):=(Sx.out.s.mkr.box.cell 1).trans rfl;have k2:w7.cell? ⟨gk,2,none⟩=some V:=(Sx.out.s.mkr.box.cell 2).trans rfl;have k3:w7.cell? ⟨gk,3,none⟩=some (.int .i64 ac):=(Sx.out.s.mkr.box.cell 3).trans (by show some (Value.int .i64 X.access)=_;rw[Sc.out.1]);have k4:w7.cell? ⟨gk,4,none⟩=some (.int .i64 (T.2:Int)):=(Sx.out.s.mkr.box.cell 4).trans rfl;have k5:w7.cell? ⟨gk,5,none⟩=some (.int .i64 (Q.2:Int)):=(Sx.out.s.mkr.box.cell 5).trans rfl;have k6:w7.cell? ⟨gk,6,none⟩=some I:=(Sx.out.s.mkr.box.cell 6).trans rfl;have k7:w7.cell? ⟨gk,7,none⟩=some F:=(Sx.out.s.mkr.box.cell 7).trans rfl;have k8:w7.cell? ⟨gk,8,none⟩=some M:=(Sx.out.s.mkr.box.cell 8).trans rfl;have k9:w7.cell? ⟨gk,9,none⟩=some (.slice none 0 0):=(Sx.out.s.mkr.box.cell 9).trans rfl;go_wp2_with (refine wpList_store_row rfl 34 (.tmp 2) (.tmp 226) rfl g2 (imC y) rfl (by rw[D0.out];rfl) 34 imZ Sx.out.e.b2 Y9p rfl (X5d y) ?_)
            have hgl:g2<gk:=J0.out;have hs7:=Sx.out.s.old (U:=OneR g2) (Y9t w7 g2 (imC y)) (fun k hk=>by have hk:k=g2:=hk;rw[hk];exact⟨hgl,by have:=Sx.out.e.lo;omega,Sx.out.n.2⟩);refine bodyPost_ret (v := .tuple #[.agg (imC y),.int .i64 0]) (Y7s _ _ g2 (imC y) rfl (Sx.out.e.b2.setRow (imC y)) rfl) rfl ⟨?_,bl_setRow Sx.out.e.bel (by have:=Sx.out.e.lo;omega) _⟩;rw[Wu.out];refine⟨gk,gm,V,y,rfl,U4.out.1,Gm.out.1,Gm.out.2.1,Gm.out.2.2.1,Gm.out.2.2.2.2.2.1,Gm.out.2.2.2.2.2.2.1,Gm.out.2.2.2.2.2.2.2.1,Gm.out.2.2.2.2.2.2.2.2.1,?_,rfl⟩;have hf:=Gm.out;have hv:=U4.out;rw[hf.2.2.2.1,hf.2.2.2.2.1,←hv.2.1,←hv.2.2.1,←hv.2.2.2,Gn.out.2,hf.2.2.2.2.2.2.2.2.2.1,hf.2.2.2.2.2.2.2.2.2.2.1,hf.2.2.2.2.2.2.2.2.2.2.2];have h9:=hs7.top;rw[Sc.out.1]at h9;exact h9
end Go.Proofs.YtpmfiegfbmamiaaDoor
