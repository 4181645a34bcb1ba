/- Contract of klass's view: field. -/
import Derived.Test.YtpmfiegfbmamiaaDoorPm7
import Derived.Test.YtpmfiegfbmamiaaDoorPm2
namespace Go.Proofs.YtpmfiegfbmamiaaDoor
set_option maxRecDepth 100000
set_option maxHeartbeats 8000000
open Go.RowKit
set_option linter.unusedSimpArgs false
theorem Y5e:(Tryd.prog.info? 61).map (·.size)=some 4:=by kernel_rfl
theorem Y2g (a k:Int) (n d:List UInt8):(#[.int .i64 a,strQ n,strQ d,.int .i64 k]:Array Value).all (·.oneCell')=true:=by simp [strQ,Value.oneCell']
def fldP (f:Fld) (e:Ending) (_:World):Prop:=e = .returned (.agg #[.int .i64 f.access,strQ f.name,strQ f.desc,.int .i64 f.const])
structure Kf3 (T4:TypeId) (w0 wx:World) (g3 g4:Nat) (c3 c4:Array Value):Prop where
 bk3:Bk wx g3 43 c3
 bk4:Bk wx g4 T4 c4
 low:Below w0.heap.size w0 wx
 od:w0.heap.size≤g3∧g3<g4
section
variable {T4:TypeId} {w0 wx w':World} {g3 g4 g5:Nat} {c3 c4:Array Value}
theorem Kf3.below (h:Kf3 T4 w0 wx g3 g4 c3 c4) (hb:Below wx.heap.size wx w'):Kf3 T4 w0 w' g3 g4 c3 c4:=⟨h.bk3.below hb h.bk3.lt,h.bk4.below hb h.bk4.lt,h.low.trans (hb.mono h.low.size),h.od⟩
theorem Kf3.one (h:Kf3 T4 w0 wx g3 g4 c3 c4) (hg:g4<g5) (c:Ch wx w' (OneR g5)):Kf3 T4 w0 w' g3 g4 c3 c4:=
 ⟨h.bk3.ch c (fun e=>by have e:g3=g5:=e;have:=h.od;omega),h.bk4.ch c (fun e=>by have e:g4=g5:=e;omega),h.low.trans (c.below h.low.size (fun k hk e=>by have e:k=g5:=e;have:=h.od;omega)),h.od⟩
theorem Y9t (w:World) (g:Nat) (cs:Array Value):Ch w (w.setRow g cs) (OneR g):=
 ⟨rfl,rfl,rfl,by unfold World.setRow;simp [Array.size_modify],fun k _ hk=>heap_setRow w g cs k hk⟩
theorem Kf3.row (h:Kf3 T4 w0 wx g3 g4 c3 c4) (hg:g4<g5) (cs:Array Value):Kf3 T4 w0 (wx.setRow g5 cs) g3 g4 c3 c4:=h.one hg (Y9t wx g5 cs)
end
section
variable {pool:List Cst} {b:Bool} {x:Mem} {n d:List UInt8}
theorem txt_len {x:ImE} {i:Int} {s:List UInt8} {k:Nat} (ht:∀c∈x.pool,c.text.length≤k) (h:txtK x.p.pool i=some s):s.length≤k:=by
 unfold txtK at h
 split at h
 ·obtain⟨c2,hc2,e⟩:=Option.map_eq_some_iff.1 h
  rw[←e];exact ht c2 (Z16 hc2)
 ·cases h
theorem X4q (h:txtK pool x.name=none):fldK pool b x=none:=by
 unfold fldK;rw[h]
 rfl
theorem X9v (h:txtK pool x.name=some n) (h2:txtK pool x.desc=none):fldK pool b x=none:=by
 unfold fldK;rw[h,h2]
 rfl
def fldR (pool:List Cst) (x:Mem) (n d:List UInt8) (vs:List (List UInt8)):Option Fld:=
 if x.access.toNat &&& 8=0∨vs=[] then some ⟨x.access,n,d,0⟩ else match vs with
  | [v]=>if v.length=2 then (let c:=beN v;gdK (decide (0<c∧c<pool.length)&&decide (tagOf d≠0)&&decide (tagK pool c=tagOf d)) (some ⟨x.access,n,d,c⟩)) else none
  | _=>none
theorem X1a {v:List UInt8} {ac:Nat} (h:x.access=(ac:Int)) (ha:ac &&& 8≠0):fldR pool x n d [v]=if v.length=2 then (gdK (decide (0<beN v∧beN v<pool.length)&&decide (tagOf d≠0)&&decide (tagK pool (beN v)=tagOf d)) (some ⟨(ac:Int),n,d,(beN v:Int)⟩)) else none:=by
 unfold fldR;rw[h,Z30,if_neg (fun e=>e.elim ha (fun e=>by cases e))]
theorem X2x {vs:List (List UInt8)} {ac:Nat} (h:x.access=(ac:Int)) (ha:ac &&& 8≠0) (h0:vs≠[]) (h1:vs.length≠1):fldR pool x n d vs=none:=by
 unfold fldR;rw[h,Z30,if_neg (fun e=>e.elim ha h0)]
 match vs,h0,h1 with
 | [v],_,h=>exact absurd rfl h
 | _::_::_,_,_=>rfl
def fldC (b:Bool) (x:Mem) (n d:List UInt8):Bool:=accK x.access.toNat 31&&(!b||decide (x.access=25))&&memberB n false&&descB d
theorem W9q (h:txtK pool x.name=some n) (h2:txtK pool x.desc=some d):fldK pool b x=gdK (fldC b x n d) ((namK pool cvN x.attrs).bind (fldR pool x n d)):=by
 unfold fldK;rw[h,h2]
 rfl
end
def tagG (d:List UInt8):Option Value:=if tagOf d=0 then none else some (.int .i64 (tagOf d))
theorem keyQ (s:List UInt8) (h:s.length≤2000000):keyOf Tryd.prog 9 (strQ s)=some (.string s):=by
 have:=WideMaps.keyOf_string_mk (P:=Tryd.prog) (s:=⟨s.toArray⟩) Tryd.underlying9 (by unfold maxLen;show s.toArray.size≤_;simp;omega)
 simpa [strQ] using this
theorem strQK:Maps.Keyed Tryd.prog 9:=Maps.string_keyed Tryd.underlying9
theorem Y6l (x y:List UInt8) (h:strQ x=strQ y):x=y:=by
 unfold strQ at h;injection h with h
 injection h with h
 simpa using congrArg Array.toList h
theorem X3o (w:World):(zeroValue 3).run Tryd.prog w = .ok (.int .i64 0) w:=by kernel_rfl
def KM (w0 w:World) (g n:Nat) (G:List UInt8→Option Value):Prop:=Below w0.heap.size w0 w∧w0.heap.size≤g∧MapT strQ w Tryd.prog 9 g n G
theorem KM.put {w0 w:World} {g n:Nat} {G:List UInt8→Option Value} (h:KM w0 w g n G) (hn:n<100) (y:List UInt8) (hy:y.length≤100) (v:Value) :
  ∃w',(Instr.mapUpdate 137 (.map (some g)) (strQ y) v).run Tryd.prog w = .ok () w'∧KM w0 w' g (n+1) (fun q=>if q=y then some v else G q):=by
 obtain⟨h1,h2,h3⟩:=h;obtain⟨w',r1,g1,M1⟩:=h3.storeRun strQK Tryd.underlying137 Y6l (Nat.lt_trans hn (by decide)) y v (keyQ y (by omega));exact⟨w',r1,h1.grown g1 h1.size (fun k e=>by injection e with e;omega),h2,M1⟩
def ljsN:List UInt8:=[76,106,97,118,97,47,108,97,110,103,47,83,116,114,105,110,103,59]
theorem X4j (d:List UInt8):((if d=ljsN then some (Value.int .i64 8) else if d=[74] then some (.int .i64 5) else if d=[73] then some (.int .i64 3) else if d=[90] then some (.int .i64 3) else if d=[83] then some (.int .i64 3) else if d=[67] then some (.int .i64 3) else if d=[66] then some (.int .i64 3) else none):Option Value)=if tagOf d=0 then none else some (.int .i64 (tagOf d)):=by
 unfold tagOf;by_cases h1:d=ljsN
 ·subst h1;rfl
 by_cases h2:d=[74]
 ·subst h2;rfl
 by_cases h3:d=[73]
 ·subst h3;rfl
 by_cases h4:d=[90]
 ·subst h4;rfl
 by_cases h5:d=[83]
 ·subst h5;rfl
 by_cases h6:d=[67]
 ·subst h6;rfl
 by_cases h7:d=[66]
 ·subst h7;rfl
 rw[if_neg h1,if_neg h2,if_neg h3,if_neg h4,if_neg h5,if_neg h6,if_neg h7];have h1':¬d=[76,106,97,118,97,47,108,97,110,103,47,83,116,114,105,110,103,59]:=h1;simp only[h1',h2,h3,h4,h5,h6,h7,or_self,if_false]
 rfl
theorem X8l (x:ImE) (b:Bool) (gv:Nat) (m:MmE) (ac:Nat) (w:World) (hv:Vw w gv x b) (hm:MmB w w.heap.size m) (hac:m.access=(ac:Int)) (hac2:ac<65536) (hl:m.n≤100000000) :
  Calls Tryd.prog 41 #[.pointer (some ⟨gv,0,none⟩),.agg #[.int .i64 (ac:Int),.int .i64 m.name,.int .i64 m.desc,.slice m.A m.n m.c]] w (KlP (fldK x.p.pool b m.p) fldP w):=by
 obtain⟨R,hR⟩:∃R,fldK x.p.pool b m.p=R:=⟨_,rfl⟩;rw[hR];have HR:=bx hR;have HV:=bx hv;have HM:=bx hm;have Jf:=bx hac;have Yh:Bx (∀wq,R=none→Below w.heap.size w wq→KlP R fldP w (.panicked brkC) wq):=bx (fun wq h c=>by rw[h];exact⟨rfl,c⟩);clear hv hR hm hac
 go_enter Tryd.func41,Tryd.ntmps41
 go_upto_region 1 with(fail)
 obtain⟨g3,hg3⟩:∃g3,w.heap.size=g3:=⟨_,rfl⟩;obtain⟨g4,hg4⟩:∃g4,w.heap.size+1=g4:=⟨_,rfl⟩;obtain⟨w2,hw2⟩:∃w2,((w.alloc (.cells #[.int .i64 (ac:Int),.int .i64 m.name,.int .i64 m.desc,.slice m.A m.n m.c] 43)).alloc (.cells #[.int .i64 0,.string ⟨#[]⟩,.string ⟨#[]⟩,.int .i64 0] 61))=w2:=⟨_,rfl⟩;have hf:Kf3 61 w w2 g3 g4 #[.int .i64 (ac:Int),.int .i64 m.name,.int .i64 m.desc,.slice m.A m.n m.c] #[.int .i64 0,.string ⟨#[]⟩,.string ⟨#[]⟩,.int .i64 0]:=by rw[←hw2,←hg3,←hg4];exact⟨(Bk.new w _ _).alloc _,Bk.newAt _ _ _ (by simp),Y9z (Y9z (Below.refl _ w) (Z00 _) _) (by simp) _,Z00 _,Z38 _⟩
 rw[hw2,hg4,hg3];have HF:Bx (Kf3 61 w w2.drew g3 g4 #[.int .i64 (ac:Int),.int .i64 m.name,.int .i64 m.desc,.slice m.A m.n m.c] #[.int .i64 0,.string ⟨#[]⟩,.string ⟨#[]⟩,.int .i64 0]):=bx (hf.below (below_drewN (Below.refl _ w2) 1));clear hf hw2 hg3 hg4
 go_cut [5] from 12 to 22 (fun v wx=>∃(g5:Nat) (nm ds:List UInt8),v = .pointer (some ⟨g5,0,none⟩)∧Bx (txtK x.p.pool m.name=some nm∧txtK x.p.pool m.desc=some ds∧g4<g5∧Bk wx g5 61 #[.int .i64 (ac:Int),strQ nm,strQ ds,.int .i64 0]∧Kf3 61 w wx g3 g4 #[.int .i64 (ac:Int),.int .i64 m.name,.int .i64 m.desc,.slice m.A m.n m.c] #[.int .i64 0,.string ⟨#[]⟩,.string ⟨#[]⟩,.int .i64 0]))
 case first=>
  -- DEV{
  refine Y9x (S:=fun w'=>w'.cell? ⟨g3,0,none⟩=some (.int .i64 (ac:Int))∧w'.cell? ⟨g3,1,none⟩=some (.int .i64 m.name)∧w'.cell? ⟨g3,2,none⟩=some (.int .i64 m.desc)) (.tk 0 (.tk 1 (.tk 2 (.tk 3 (.tk 4 (.tk 6 (.tk 7 (.tk 8 (.alt 5 (.alt 9 (.tk 10 (.rn 11 (.rn 12 .fin))) (.rn 11 (.rn 9 (.tk 10 (.rn 12 .fin))))) (.rn 11 (.rn 5 (.rn 9 (.tk 10 (.rn 12 .fin)))))))))))))) (by kernel_rfl) (by kernel_rfl) (by kernel_rfl) (fun _ _ _ _ h=>h) ⟨(HF.out.bk3.cell 0).trans rfl,(HF.out.bk3.cell 1).trans rfl,(HF.out.bk3.cell 2).trans rfl⟩ ?_;generalize w2.drew=v0 at HF ⊢
  iterate 8 (apply SeqW.take;(· rfl);(· (refine Or.inl ⟨?_,?_⟩;(· rfl);(· (intro w hSw;(try dsimp only at hSw);go_simp <;> with_reducible rfl))));simp only[Act.put,Z01,Z02,Z03,Z06,Z04,Z05])
  refine SeqW.both rfl (fun K hK hP=>?_) ?_
  ·go_wp2_with fail
   refine Y9f (x:=x) (b:=b) m.name (HV.out.below HF.out.low) ?_ ?_
   ·intro h wq hb
    go_wp2;refine hP.out _ _ _ ?_;exact⟨rfl,Yh.out _ (by rw[←HR.out];exact X4q h) (HF.out.low.trans (hb.mono HF.out.low.size))⟩
   intro nm hs v1 hb;have Tp:=bx hs;have HF_:=bx (HF.out.below hb);clear HF hs hb;have HF:=HF_;clear HF_;go_wp2;refine hK.out _ _ ⟨(HF.out.bk3.cell 0).trans rfl,(HF.out.bk3.cell 1).trans rfl,(HF.out.bk3.cell 2).trans rfl⟩ ?_;clear hK hP K;refine SeqW.both rfl (fun K hK hP=>?_) ?_
   ·go_wp2_with fail
    refine Y9f (x:=x) (b:=b) m.desc (HV.out.below HF.out.low) ?_ ?_
    ·intro h wq hb
     go_wp2;refine hP.out _ _ _ ?_;exact⟨rfl,Yh.out _ (by rw[←HR.out];exact X9v Tp.out h) (HF.out.low.trans (hb.mono HF.out.low.size))⟩
    intro ds hs v2 hb;have Se:=bx hs;have HF_:=bx (HF.out.below hb);clear HF hs hb;have HF:=HF_;clear HF_;go_wp2;refine hK.out _ _ ⟨(HF.out.bk3.cell 0).trans rfl,(HF.out.bk3.cell 1).trans rfl,(HF.out.bk3.cell 2).trans rfl⟩ ?_;clear hK hP K
    iterate 1 (apply SeqW.take;(· rfl);(· (refine Or.inl ⟨?_,?_⟩;(· rfl);(· (intro w hSw;(try dsimp only at hSw);go_simp <;> with_reducible rfl))));simp only[Act.put,Z01,Z02,Z03,Z06,Z04,Z05])
    refine SeqW.run rfl (fun K hK hP=>?_);go_wp2_with fail
    have HF_:=bx (HF.out.below (Y9z (Below.refl v2.heap.size v2) (Z00 _) (.cells #[.int .i64 0,.string ⟨#[]⟩,.string ⟨#[]⟩,.int .i64 0] 61)));have H5:=bx (Bk.new v2 61 #[.int .i64 0,.string ⟨#[]⟩,.string ⟨#[]⟩,.int .i64 0]);obtain⟨g5,hg5⟩:∃g5,v2.heap.size=g5:=⟨_,rfl⟩;have Yq:Bx (g4<g5):=bx (by have:=HF.out.bk4.lt;omega);obtain⟨v3,hv⟩:∃v3,v2.alloc (.cells #[.int .i64 0,.string ⟨#[]⟩,.string ⟨#[]⟩,.int .i64 0] 61)=v3:=⟨_,rfl⟩;rw[hg5,hv];rw[hv]at HF_ H5;rw[hg5]at H5;clear HF hg5 hv;have HF:=HF_;clear HF_;refine hK.out _ _ ⟨(HF.out.bk3.cell 0).trans rfl,(HF.out.bk3.cell 1).trans rfl,(HF.out.bk3.cell 2).trans rfl⟩ ?_;clear hK hP K;refine SeqW.run rfl (fun K hK hP=>?_);refine wpList_store_row rfl 61 (.tmp 5) (.tmp 22) rfl g5 #[.int .i64 (ac:Int),strQ nm,strQ ds,.int .i64 0] rfl rfl 61 #[.int .i64 0,.string ⟨#[]⟩,.string ⟨#[]⟩,.int .i64 0] H5.out Y5e rfl (Y2g _ _ _ _) ?_;refine wpList_nil ?_;have HF_:=bx (HF.out.row Yq.out #[.int .i64 (ac:Int),strQ nm,strQ ds,.int .i64 0]);have H5_:=bx (H5.out.setRow #[.int .i64 (ac:Int),strQ nm,strQ ds,.int .i64 0]);clear HF H5;have HF:=HF_;have H5:=H5_;clear HF_ H5_;refine hK.out _ _ ⟨(HF.out.bk3.cell 0).trans rfl,(HF.out.bk3.cell 1).trans rfl,(HF.out.bk3.cell 2).trans rfl⟩ ?_;clear hK hP K;refine SeqW.done ?_;go_wp2
    go_meet
    exact⟨g5,nm,ds,rfl,bx ⟨Tp.out,Se.out,Yq.out,H5.out,HF.out⟩⟩
   ·refine SeqW.run rfl (fun K hK hP=>?_)
    go_wp2_with fail
    have HF_:=bx (HF.out.below (Y9z (Below.refl v1.heap.size v1) (Z00 _) (.cells #[.int .i64 0,.string ⟨#[]⟩,.string ⟨#[]⟩,.int .i64 0] 61)));have H5:=bx (Bk.new v1 61 #[.int .i64 0,.string ⟨#[]⟩,.string ⟨#[]⟩,.int .i64 0]);obtain⟨g5,hg5⟩:∃g5,v1.heap.size=g5:=⟨_,rfl⟩;have Yq:Bx (g4<g5):=bx (by have:=HF.out.bk4.lt;omega);obtain⟨v5,hv⟩:∃v5,v1.alloc (.cells #[.int .i64 0,.string ⟨#[]⟩,.string ⟨#[]⟩,.int .i64 0] 61)=v5:=⟨_,rfl⟩;rw[hg5,hv];rw[hv]at HF_ H5;rw[hg5]at H5;clear HF hg5 hv;have HF:=HF_;clear HF_;refine hK.out _ _ ⟨(HF.out.bk3.cell 0).trans rfl,(HF.out.bk3.cell 1).trans rfl,(HF.out.bk3.cell 2).trans rfl⟩ ?_;clear hK hP K;refine SeqW.run rfl (fun K hK hP=>?_);go_wp2_with fail
    refine Y9f (x:=x) (b:=b) m.desc (HV.out.below HF.out.low) ?_ ?_
    ·intro h wq hb
     go_wp2;refine hP.out _ _ _ ?_;exact⟨rfl,Yh.out _ (by rw[←HR.out];exact X9v Tp.out h) (HF.out.low.trans (hb.mono HF.out.low.size))⟩
    intro ds hs v6 hb;have Se:=bx hs;have HF_:=bx (HF.out.below hb);have H5_:=bx (H5.out.below hb H5.out.lt);clear HF hs hb H5;have HF:=HF_;have H5:=H5_;clear HF_ H5_;go_wp2;refine hK.out _ _ ⟨(HF.out.bk3.cell 0).trans rfl,(HF.out.bk3.cell 1).trans rfl,(HF.out.bk3.cell 2).trans rfl⟩ ?_;clear hK hP K
    iterate 1 (apply SeqW.take;(· rfl);(· (refine Or.inl ⟨?_,?_⟩;(· rfl);(· (intro w hSw;(try dsimp only at hSw);go_simp <;> with_reducible rfl))));simp only[Act.put,Z01,Z02,Z03,Z06,Z04,Z05])
    refine SeqW.run rfl (fun K hK hP=>?_);refine wpList_store_row rfl 61 (.tmp 5) (.tmp 22) rfl g5 #[.int .i64 (ac:Int),strQ nm,strQ ds,.int .i64 0] rfl rfl 61 #[.int .i64 0,.string ⟨#[]⟩,.string ⟨#[]⟩,.int .i64 0] H5.out Y5e rfl (Y2g _ _ _ _) ?_;refine wpList_nil ?_;have HF_:=bx (HF.out.row Yq.out #[.int .i64 (ac:Int),strQ nm,strQ ds,.int .i64 0]);have H5_:=bx (H5.out.setRow #[.int .i64 (ac:Int),strQ nm,strQ ds,.int .i64 0]);clear HF H5;have HF:=HF_;have H5:=H5_;clear HF_ H5_;refine hK.out _ _ ⟨(HF.out.bk3.cell 0).trans rfl,(HF.out.bk3.cell 1).trans rfl,(HF.out.bk3.cell 2).trans rfl⟩ ?_;clear hK hP K;refine SeqW.done ?_;go_wp2
    go_meet
    exact⟨g5,nm,ds,rfl,bx ⟨Tp.out,Se.out,Yq.out,H5.out,HF.out⟩⟩
  ·refine SeqW.run rfl (fun K hK hP=>?_)
   go_wp2_with fail
   have HF_:=bx (HF.out.below (Y9z (Below.refl v0.heap.size v0) (Z00 _) (.cells #[.int .i64 0,.string ⟨#[]⟩,.string ⟨#[]⟩,.int .i64 0] 61)));have H5:=bx (Bk.new v0 61 #[.int .i64 0,.string ⟨#[]⟩,.string ⟨#[]⟩,.int .i64 0]);obtain⟨g5,hg5⟩:∃g5,v0.heap.size=g5:=⟨_,rfl⟩;have Yq:Bx (g4<g5):=bx (by have:=HF.out.bk4.lt;omega);obtain⟨v8,hv⟩:∃v8,v0.alloc (.cells #[.int .i64 0,.string ⟨#[]⟩,.string ⟨#[]⟩,.int .i64 0] 61)=v8:=⟨_,rfl⟩;rw[hg5,hv];rw[hv]at HF_ H5;rw[hg5]at H5;clear HF hg5 hv;have HF:=HF_;clear HF_;refine hK.out _ _ ⟨(HF.out.bk3.cell 0).trans rfl,(HF.out.bk3.cell 1).trans rfl,(HF.out.bk3.cell 2).trans rfl⟩ ?_;clear hK hP K;refine SeqW.run rfl (fun K hK hP=>?_);go_wp2_with fail
   refine Y9f (x:=x) (b:=b) m.name (HV.out.below HF.out.low) ?_ ?_
   ·intro h wq hb
    go_wp2;refine hP.out _ _ _ ?_;exact⟨rfl,Yh.out _ (by rw[←HR.out];exact X4q h) (HF.out.low.trans (hb.mono HF.out.low.size))⟩
   intro nm hs v9 hb;have Tp:=bx hs;have HF_:=bx (HF.out.below hb);have H5_:=bx (H5.out.below hb H5.out.lt);clear HF hs hb H5;have HF:=HF_;have H5:=H5_;clear HF_ H5_;go_wp2;refine hK.out _ _ ⟨(HF.out.bk3.cell 0).trans rfl,(HF.out.bk3.cell 1).trans rfl,(HF.out.bk3.cell 2).trans rfl⟩ ?_;clear hK hP K;refine SeqW.run rfl (fun K hK hP=>?_);go_wp2_with fail
   refine Y9f (x:=x) (b:=b) m.desc (HV.out.below HF.out.low) ?_ ?_
   ·intro h wq hb
    go_wp2;refine hP.out _ _ _ ?_;exact⟨rfl,Yh.out _ (by rw[←HR.out];exact X9v Tp.out h) (HF.out.low.trans (hb.mono HF.out.low.size))⟩
   intro ds hs v10 hb;have Se:=bx hs;have HF_:=bx (HF.out.below hb);have H5_:=bx (H5.out.below hb H5.out.lt);clear HF hs hb H5;have HF:=HF_;have H5:=H5_;clear HF_ H5_;go_wp2;refine hK.out _ _ ⟨(HF.out.bk3.cell 0).trans rfl,(HF.out.bk3.cell 1).trans rfl,(HF.out.bk3.cell 2).trans rfl⟩ ?_;clear hK hP K
   iterate 1 (apply SeqW.take;(· rfl);(· (refine Or.inl ⟨?_,?_⟩;(· rfl);(· (intro w hSw;(try dsimp only at hSw);go_simp <;> with_reducible rfl))));simp only[Act.put,Z01,Z02,Z03,Z06,Z04,Z05])
   refine SeqW.run rfl (fun K hK hP=>?_);refine wpList_store_row rfl 61 (.tmp 5) (.tmp 22) rfl g5 #[.int .i64 (ac:Int),strQ nm,strQ ds,.int .i64 0] rfl rfl 61 #[.int .i64 0,.string ⟨#[]⟩,.string ⟨#[]⟩,.int .i64 0] H5.out Y5e rfl (Y2g _ _ _ _) ?_;refine wpList_nil ?_;have HF_:=bx (HF.out.row Yq.out #[.int .i64 (ac:Int),strQ nm,strQ ds,.int .i64 0]);have H5_:=bx (H5.out.setRow #[.int .i64 (ac:Int),strQ nm,strQ ds,.int .i64 0]);clear HF H5;have HF:=HF_;have H5:=H5_;clear HF_ H5_;refine hK.out _ _ ⟨(HF.out.bk3.cell 0).trans rfl,(HF.out.bk3.cell 1).trans rfl,(HF.out.bk3.cell 2).trans rfl⟩ ?_;clear hK hP K;refine SeqW.done ?_;go_wp2
   go_meet
   exact⟨g5,nm,ds,rfl,bx ⟨Tp.out,Se.out,Yq.out,H5.out,HF.out⟩⟩
  -- DEV}
 case rest=>
  obtain⟨g5,nm,ds,rfl,hC⟩:=hcut;have Vf:Bx (R=gdK (fldC b m.p nm ds) ((namK x.p.pool cvN m.p.attrs).bind (fldR x.p.pool m.p nm ds))):=bx (by rw[←HR.out];exact W9q hC.out.1 hC.out.2.1);have Yq:=bx hC.out.2.2.1;have H5:=bx hC.out.2.2.2.1;have Wt:=bx hC.out.2.2.2.2;have Xy:Bx (nm.length≤2000000∧ds.length≤2000000):=bx ⟨txt_len HV.out.txt hC.out.1,txt_len HV.out.txt hC.out.2.1⟩;have HP:Bx (m.p.access.toNat=ac∧m.p.access=(ac:Int)):=bx ⟨by show m.access.toNat=ac;rw[Jf.out];rfl,Jf.out⟩;clear hC HF HR;have c0:wc.cell? ⟨g5,0,none⟩=some (.int .i64 (ac:Int)):=(H5.out.cell 0).trans rfl;have c1:wc.cell? ⟨g5,1,none⟩=some (strQ nm):=(H5.out.cell 1).trans rfl;have c2:wc.cell? ⟨g5,2,none⟩=some (strQ ds):=(H5.out.cell 2).trans rfl;have hg5:=H5.out.lt;go_step;go_wp2_with fail
  refine Y4h ac 31 wc hac2 (by decide) ?_ ?_
  ·intro h
   have HX:Bx (R=none):=bx (by rw[Vf.out];unfold fldC;rw[HP.out.1,h];rfl);go_wp2;exact⟨rfl,Yh.out _ HX.out Wt.out.low⟩
  intro ha;have HA:=bx ha;clear ha;have hvw:=HV.out.below Wt.out.low;have c10:wc.cell? ⟨gv,10,none⟩=some (.bool b):=(hvw.box.cell 10).trans rfl;have hgv:=hvw.lt;clear hvw;obtain⟨q,hq⟩:∃q,(!b||decide ((ac:Int)=25))=q:=⟨_,rfl⟩;have hq25:b=true→((ac:Int)==25)=q:=fun e=>by rw[←hq,e];by_cases h:(ac:Int)=25 <;> simp [h]
  have HQ:Bx (fldC b m.p nm ds=(q&&memberB nm false&&descB ds)):=bx (by unfold fldC;rw[HP.out.1,HP.out.2,HA.out,hq,Z25]);have Xq:Bx (b=false→q=true):=bx (fun e=>by rw[←hq,e];rfl);have Po:=bx hq25;clear hq hq25;go_upto_region 3 with(fail)
  go_cut [36] from 26 to 36 (fun _ wx=>wx=wc∧Bx (q=true))
  case first=>
   cases b with
   | false=>
    go_wp2_with fail
    refine Y9w _ (fun e=>by cases e) (fun _=>?_);go_wp2
    go_meet
    exact⟨rfl,bx (Xq.out (by first | trivial | rfl))⟩
   | true=>
    have hq:=Po.out rfl;cases q with
    | false=>
     go_wp2_with fail
     refine Y9w _ (fun _=>?_) (fun e=>by cases e);have HX:Bx (R=none):=bx (by rw[Vf.out,HQ.out];rfl);go_wp2;exact⟨rfl,Yh.out _ HX.out Wt.out.low⟩
    | true=>
     go_wp2_with fail
     refine Y9w _ (fun e=>by cases e) (fun _=>?_);go_wp2
     go_meet
     exact⟨rfl,bx (by first | trivial | rfl)⟩
  case rest=>
   obtain⟨rfl,Gi⟩:=hcut;go_step;have Jj:Bx (fldC b m.p nm ds=(memberB nm false&&descB ds)):=bx (by rw[HQ.out,Gi.out,Z25]);clear HQ Gi Xq Po c10 hgv;go_upto_region 4 with(fail)
   go_cut [44] from 37 to 45 (fun _ wx=>Bx (fldC b m.p nm ds=true∧Bk wx g5 61 #[.int .i64 (ac:Int),strQ nm,strQ ds,.int .i64 0]∧Kf3 61 w wx g3 g4 #[.int .i64 (ac:Int),.int .i64 m.name,.int .i64 m.desc,.slice m.A m.n m.c] #[.int .i64 0,.string ⟨#[]⟩,.string ⟨#[]⟩,.int .i64 0]))
   case first=>
    unfold strQ at c1 c2;obtain⟨q1,hq1⟩:∃q1,memberB nm false=q1:=⟨_,rfl⟩;obtain⟨q2,hq2⟩:∃q2,descB ds=q2:=⟨_,rfl⟩;rw[hq1,hq2]at Jj;have Xt:=bx hq1;have Q4:=bx hq2;clear hq1 hq2;go_wp2_with fail
    refine Y7m nm false Xy.out.1 ?_;rw[Xt.out];cases q1 with
    | false=>
     go_wp2_with fail
     refine Y9w _ (fun _=>?_) (fun e=>by cases e);have HX:Bx (R=none):=bx (by rw[Vf.out,Jj.out];rfl);go_wp2;exact⟨rfl,Yh.out _ HX.out Wt.out.low⟩
    | true=>
     go_wp2_with fail
     refine Y3h (x:=x) (b:=b) ds (HV.out.below Wt.out.low) Xy.out.2 ?_;intro w5 hb5;rw[Q4.out];have Qn:=bx (Wt.out.below hb5);have Gb:=bx (H5.out.below hb5 H5.out.lt);clear hb5;cases q2 with
     | false=>
      go_wp2_with fail
      refine Y9w _ (fun _=>?_) (fun e=>by cases e);have HX:Bx (R=none):=bx (by rw[Vf.out,Jj.out];rfl);go_wp2;exact⟨rfl,Yh.out _ HX.out Qn.out.low⟩
     | true=>
      go_wp2_with fail
      refine Y9w _ (fun e=>by cases e) (fun _=>?_);go_wp2
      go_meet
      exact bx ⟨Jj.out,Gb.out,Qn.out⟩
   case rest=>
    have Su:Bx (R=(namK x.p.pool cvN m.p.attrs).bind (fldR x.p.pool m.p nm ds)):=bx (by rw[Vf.out,hcut.out.1];rfl);clear H5 Wt Vf Jj c0 c1 c2 hg5;have H5:=bx hcut.out.2.1;have Wt:=bx hcut.out.2.2;clear hcut
    rename World=>wd
    have c3:wd.cell? ⟨g3,3,none⟩=some (.slice m.A m.n m.c):=(Wt.out.bk3.cell 3).trans rfl;have hg3:=Wt.out.bk3.lt;obtain⟨o,ho⟩:∃o,namK x.p.pool cvN m.p.attrs=o:=⟨_,rfl⟩;have Sr:=bx (Y4f x b gv w.heap.size m.A m.n m.c m.L cvN wd (HV.out.below Wt.out.low) (HM.out.2.2.2.below Wt.out.low (Z00 _)) Wt.out.low.size HM.out.1 hl);have ho2:namK x.p.pool cvN (m.L.map AtE.p)=o:=ho;rw[ho2]at Sr;rw[ho]at Su;clear ho ho2;go_step;go_wp2_with fail
    refine Sr.out.mono ?_;intro e w6 hp;obtain⟨hp,hb6⟩:=hp;have Re:=bx (Wt.out.below hb6);have Sp:=bx (H5.out.below hb6 H5.out.lt);clear hb6 Sr;cases o with
    | none=>have hp:e = .panicked brkC:=hp;subst hp;have HX:Bx (R=none):=bx (by rw[Su.out];rfl);go_wp2;exact⟨rfl,Yh.out _ HX.out Re.out.low⟩
    | some vs=>
     obtain⟨A6,n6,c6,ps,rfl,hO,hps,hmem⟩:=hp;have Je:=bx hO;have Kn:=bx hps;have Qh:=bx hmem;have To:Bx (R=fldR x.p.pool m.p nm ds vs):=Su;clear hO hps hmem H5 Wt Su c3 hg3;go_upto_region 6 with(fail)
     obtain⟨k8,hk8⟩:∃k8,ac &&& 8=k8:=⟨_,rfl⟩;have h8:bits .and .i64 (ac:Int) 8=(k8:Int):=by rw[←hk8];exact Y6w ac 8 hac2 (by decide)
     have hn6:n6=vs.length:=by rw[←Kn.out,Z17];exact Je.out.len
     obtain⟨z,hz⟩:∃z,decide (ac &&& 8=0∨vs=[])=z:=⟨_,rfl⟩;have HZ:Bx (decide (k8=0∨n6=0)=z):=bx (by rw[←hz,hk8,hn6];congr 1;rw[List.length_eq_zero_iff]);have Ti:=bx hz;have Mo:=bx hn6;clear hk8 hz hn6;have c0:w6.cell? ⟨g5,0,none⟩=some (.int .i64 (ac:Int)):=(Sp.out.cell 0).trans rfl;have c1:w6.cell? ⟨g5,1,none⟩=some (strQ nm):=(Sp.out.cell 1).trans rfl;have c2:w6.cell? ⟨g5,2,none⟩=some (strQ ds):=(Sp.out.cell 2).trans rfl;have c3:w6.cell? ⟨g5,3,none⟩=some (.int .i64 0):=(Sp.out.cell 3).trans rfl;have hg5:=Sp.out.lt
     go_cut [58] from 50 to 58 (fun v wx=>wx=w6∧v = .bool z)
     case first=>
      by_cases hk0:k8=0
      ·have hkb:((k8:Int)==0)=true:=by simp;omega
       have Nx:Bx (z=true):=bx (by rw[←HZ.out];exact Z47 (.inl hk0));clear hk0;go_wp2_with fail
       go_meet
       exact⟨rfl,by rw[Nx.out]⟩
      ·have hkb:((k8:Int)==0)=false:=by simp;omega
       by_cases hn0:n6=0
       ·have hnb:((n6:Int)==0)=true:=by simp;omega
        have Nx:Bx (z=true):=bx (by rw[←HZ.out];exact Z47 (.inr hn0));clear hn0;go_wp2_with fail
        go_meet
        exact⟨rfl,by rw[Nx.out]⟩
       ·have hnb:((n6:Int)==0)=false:=by simp;omega
        have Nx:Bx (z=false):=bx (by rw[←HZ.out];exact Z48 (by omega));go_wp2_with fail
        go_meet
        exact⟨rfl,by rw[Nx.out]⟩
     case rest=>
      obtain⟨rfl,rfl⟩:=hcut;clear h8;go_step;cases z with
      | true=>
       have HX:Bx (R=some ⟨(ac:Int),nm,ds,0⟩):=bx (by rw[To.out];unfold fldR;rw[HP.out.1,HP.out.2,if_pos (Z49 Ti.out)]);have Yj:=bx Re.out.bk4;go_wp2_with (refine wpList_store_row rfl 61 (.tmp 4) (.tmp 59) rfl g4 #[.int .i64 (ac:Int),strQ nm,strQ ds,.int .i64 0] rfl rfl 61 #[.int .i64 0,.string ⟨#[]⟩,.string ⟨#[]⟩,.int .i64 0] Yj.out Y5e rfl (Y2g _ _ _ _) ?_)
       simp only[Act.put];have hb4:=Yj.out.setRow #[.int .i64 (ac:Int),strQ nm,strQ ds,.int .i64 0];have d0:=hb4.cell 0;have d1:=hb4.cell 1;have d2:=hb4.cell 2;have d3:=hb4.cell 3;simp only[Z19,List.getElem?_cons_zero,Z21]at d0 d1 d2 d3;rw[HX.out];exact bodyPost_ret (v := .agg #[.int .i64 (ac:Int),strQ nm,strQ ds,.int .i64 0]) (by simp [results,Tryd.results41,go_sem,d0,d1,d2,d3]) rfl ⟨rfl,Re.out.low.trans ((Y9t wc g4 _).below Re.out.low.size (fun k hk e=>by have e:k=g4:=e;have:=Re.out.od;omega))⟩
      | false=>
       have Mn:Bx (ac &&& 8≠0∧vs≠[]):=bx (by have:=of_decide_eq_false Ti.out;exact⟨fun e=>this (.inl e),fun e=>this (.inr e)⟩);clear HZ Ti;by_cases hn1:n6=1
       case neg=>
        have hnb:((n6:Int)==1)=false:=by simp;omega
        have HX:Bx (R=none):=bx (by rw[To.out];exact X2x HP.out.2 Mn.out.1 Mn.out.2 (by rw[←Mo.out];exact hn1));go_wp2_with fail
        refine Y9w _ (fun _=>?_) (fun e=>by cases e);go_wp2;exact⟨rfl,Yh.out _ HX.out Re.out.low⟩
       case pos=>
       have hnb:((n6:Int)==1)=true:=by simp;omega
       obtain⟨p1,hp1⟩:∃p1,ps=[p1]:=by
        have h1:ps.length=1:=by rw[←Je.out.len];exact hn1
        exact List.length_eq_one_iff.1 h1
       obtain⟨a1,ha1,ha2⟩:=Qh.out p1 (by rw[hp1];simp);have hsl:SlB wc w.heap.size p1:=by rw[←ha2];exact(HM.out.2.2.2.2 a1 ha1).below Re.out.low (Z00 _)
       obtain⟨gq,cq,hq,_,hq2⟩:=Je.out.form (by rw[hp1];exact Nat.one_pos);injection hq with hq3 hq4 hq5
       subst hq3;have hcq:wc.cell? ⟨gq,0,none⟩=some (.slice p1.A p1.n p1.c):=Je.out.cell slCels (k:=0) (j:=0) (x:=p1) (by rw[hp1];rfl) rfl;have Jl:Bx (vs=[p1.l]):=bx (by rw[←Kn.out,hp1];rfl);have Vy:=bx hsl;have Wu:=bx hn1;clear hp1 ha1 ha2 hq4 hq5 hsl Je Kn Qh hn1;have Sz:Bx (R=if p1.l.length=2 then (gdK (decide (0<beN p1.l∧beN p1.l<x.p.pool.length)&&decide (tagOf ds≠0)&&decide (tagK x.p.pool (beN p1.l)=tagOf ds)) (some ⟨(ac:Int),nm,ds,(beN p1.l:Int)⟩)) else none):=bx (by rw[To.out,Jl.out];exact X1a HP.out.2 Mn.out.1);have hi0:(0:Int)<(n6:Int):=by have:=Wu.out;omega
       clear To Jl Mo Mn;by_cases hn2:p1.n=2
       case neg=>
        have hnc:((p1.n:Int)==2)=false:=by simp;omega
        have HX:Bx (R=none):=bx (by rw[Sz.out,if_neg (by rw[Vy.out.1];exact hn2)]);go_wp2_with fail
        refine Y9w _ (fun _=>?_) (fun e=>by cases e);go_wp2;exact⟨rfl,Yh.out _ HX.out Re.out.low⟩
       case pos=>
       have hnc:((p1.n:Int)==2)=true:=by simp;omega
       have Ts:=bx hn2;clear hn2;go_wp2_with fail
       refine Y9w _ (fun e=>by cases e) (fun _=>?_);go_wp2_with fail
       obtain⟨cc,hcc⟩:∃cc,beN p1.l=cc:=⟨_,rfl⟩;have hl2:p1.l.length=2:=by rw[Vy.out.1];exact Ts.out
       have hcc6:cc<65536:=by
        have:=X9x p1.l
        rw[hl2,hcc]at this;exact this
       have hbig:=X3c p1.A p1.c 0 2 wc p1.l p1.n Vy.out.1 (by rw[hl2];decide) (by rw[Vy.out.1];exact Vy.out.2.1) Vy.out.2.2.1 (by decide) (by decide) (by rw[hl2];decide) (Vy.out.2.2.2.more Re.out.low.size);rw[show (p1.l.drop 0).take 2=p1.l by rw[List.drop_zero,←hl2,List.take_length],hcc,show wrap64 (cc:Int)=(cc:Int) by unfold wrap64;omega]at hbig;rw[hcc,if_pos hl2]at Sz;have Ws:=bx hcc;have Bq:=bx hbig;clear hbig hcc hl2;refine Bq.out.mono ?_;rintro e w7 ⟨rfl,hw⟩;obtain rfl:wc=w7:=hw;have hfz:=Sp.out.frz 3;go_upto_region 11 with(fail)
       have Pk:Bx (Bk (wc.setCell ⟨g5,3,none⟩ (.int .i64 (cc:Int))) g5 61 #[.int .i64 (ac:Int),strQ nm,strQ ds,.int .i64 (cc:Int)]):=bx (Sp.out.set 3 _);have Ta:=bx (Re.out.one Yq.out (Ch.one (i:=3) (u := .int .i64 (cc:Int))));generalize wc.setCell ⟨g5,3,none⟩ (.int .i64 (cc:Int))=w8 at Pk Ta ⊢;clear Re Sp Bq Vy hcq hnb hnc hi0 c0 c1 c2 c3 hg5 hfz;have hvw:=HV.out.below Ta.out.low;have s1:w8.drew.cell? ⟨g5,3,none⟩=some (.int .i64 (cc:Int)):=(Pk.out.cell 3).trans rfl;have s2:w8.drew.cell? ⟨gv,2,none⟩=some (.slice x.pA x.pn x.pc):=(hvw.box.cell 2).trans rfl;have Qg:Bx (x.p.pool.length=x.pn):=bx hvw.im.pl.1;have hgv:=hvw.lt;have hg5:=Pk.out.lt;clear hvw;by_cases hc0:0<cc
       case neg=>
        -- DEV{
        have hc0I:¬0<(cc:Int):=(by omega);have hc0d:decide (0<(cc:Int))=false:=Z48 hc0I;have HX:Bx (R=none):=bx (by rw[Sz.out,Z48 (fun e=>hc0 e.1)];rfl);refine Y9x (S:=fun w'=>w'.cell? ⟨g5,3,none⟩=some (.int .i64 (cc:Int))∧w'.cell? ⟨gv,2,none⟩=some (.slice x.pA x.pn x.pc)) (.tk 0 (.tk 1 (.tk 2 (.tk 3 (.tk 4 (.tk 5 (.tk 6 (.tk 7 (.tk 8 (.tk 9 (.tk 10 (.tk 11 (.tk 12 (.tk 13 (.rn 14 .fin))))))))))))))) (by kernel_rfl) (by kernel_rfl) (by kernel_rfl) (fun _ _ _ _ h=>h) ⟨s1,s2⟩ ?_
        iterate 4 (apply SeqW.take;(· rfl);(· (refine Or.inl ⟨?_,?_⟩;(· rfl);(· (intro w hSw;(try dsimp only at hSw);go_simp <;> with_reducible rfl))));simp only[Act.put,Z01,Z02,Z03,Z06,Z04,Z05])
        refine SeqW.take (o:=?sp16) ?so16 (Or.inr ⟨?sw16,rfl⟩) ?sr16
        case so16=>rfl
        case sw16=>rfl
        simp only[Act.put,Z01,Z02,Z03,Z06,Z04,Z05];refine SeqW.take (o:=?sp17) ?so17 (Or.inr ⟨?sw17,rfl⟩) ?sr17
        case so17=>rfl
        case sw17=>rfl
        simp only[Act.put,Z01,Z02,Z03,Z06,Z04,Z05];refine SeqW.take (o:=?sp18) ?so18 (Or.inr ⟨?sw18,rfl⟩) ?sr18
        case so18=>rfl
        case sw18=>rfl
        simp only[Act.put,Z01,Z02,Z03,Z06,Z04,Z05];refine SeqW.take (o:=?sp19) ?so19 (Or.inr ⟨?sw19,rfl⟩) ?sr19
        case so19=>rfl
        case sw19=>rfl
        simp only[Act.put,Z01,Z02,Z03,Z06,Z04,Z05];refine SeqW.take (o:=?sp20) ?so20 (Or.inr ⟨?sw20,rfl⟩) ?sr20
        case so20=>rfl
        case sw20=>rfl
        simp only[Act.put,Z01,Z02,Z03,Z06,Z04,Z05];refine SeqW.take (o:=?sp21) ?so21 (Or.inr ⟨?sw21,rfl⟩) ?sr21
        case so21=>rfl
        case sw21=>rfl
        simp only[Act.put,Z01,Z02,Z03,Z06,Z04,Z05];refine SeqW.take (o:=?sp22) ?so22 (Or.inr ⟨?sw22,rfl⟩) ?sr22
        case so22=>rfl
        case sw22=>rfl
        simp only[Act.put,Z01,Z02,Z03,Z06,Z04,Z05];refine SeqW.take (o:=?sp23) ?so23 (Or.inr ⟨?sw23,rfl⟩) ?sr23
        case so23=>rfl
        case sw23=>rfl
        simp only[Act.put,Z01,Z02,Z03,Z06,Z04,Z05];refine SeqW.take (o:=?sp24) ?so24 (Or.inr ⟨?sw24,rfl⟩) ?sr24
        case so24=>rfl
        case sw24=>rfl
        simp only[Act.put,Z01,Z02,Z03,Z06,Z04,Z05]
        iterate 1 (apply SeqW.take;(· rfl);(· (refine Or.inl ⟨?_,?_⟩;(· rfl);(· (intro w hSw;(try dsimp only at hSw);go_simp <;> with_reducible rfl))));simp only[Act.put,Z01,Z02,Z03,Z06,Z04,Z05])
        refine SeqW.run rfl (fun K hK hP=>?_);go_wp2_with fail
        refine Y9w _ (fun _=>?_) (fun e=>by cases e);go_wp2;refine hP.out _ _ _ ?_;exact⟨rfl,Yh.out _ HX.out (below_drewN Ta.out.low 1)⟩
        -- DEV}
       case pos=>
       have hc0I:0<(cc:Int):=(by omega);have hc0d:decide (0<(cc:Int))=true:=Z47 hc0I;by_cases hcp:cc<x.pn
       case neg=>
        -- DEV{
        have hcpI:¬(cc:Int)<(x.pn:Int):=(by omega);have hcpd:decide ((cc:Int)<(x.pn:Int))=false:=Z48 hcpI;have HX:Bx (R=none):=bx (by rw[Sz.out,Z48 (fun e=>hcp (by rw[←Qg.out];exact e.2))];rfl);refine Y9x (S:=fun w'=>w'.cell? ⟨g5,3,none⟩=some (.int .i64 (cc:Int))∧w'.cell? ⟨gv,2,none⟩=some (.slice x.pA x.pn x.pc)) (.tk 0 (.tk 1 (.tk 2 (.tk 3 (.tk 4 (.tk 5 (.tk 6 (.tk 7 (.tk 8 (.tk 9 (.tk 10 (.tk 11 (.tk 12 (.tk 13 (.rn 14 .fin))))))))))))))) (by kernel_rfl) (by kernel_rfl) (by kernel_rfl) (fun _ _ _ _ h=>h) ⟨s1,s2⟩ ?_
        iterate 14 (apply SeqW.take;(· rfl);(· (refine Or.inl ⟨?_,?_⟩;(· rfl);(· (intro w hSw;(try dsimp only at hSw);go_simp <;> with_reducible rfl))));simp only[Act.put,Z01,Z02,Z03,Z06,Z04,Z05])
        refine SeqW.run rfl (fun K hK hP=>?_);go_wp2_with fail
        refine Y9w _ (fun _=>?_) (fun e=>by cases e);go_wp2;refine hP.out _ _ _ ?_;exact⟨rfl,Yh.out _ HX.out (below_drewN Ta.out.low 1)⟩
        -- DEV}
       case pos=>
       have hcpI:(cc:Int)<(x.pn:Int):=(by omega);have hcpd:decide ((cc:Int)<(x.pn:Int))=true:=Z47 hcpI;have Qf:Bx (R=gdK (decide (tagOf ds≠0)&&decide (tagK x.p.pool cc=tagOf ds)) (some ⟨(ac:Int),nm,ds,(cc:Int)⟩)):=bx (by rw[Sz.out,Z47 ⟨hc0,by rw[Qg.out];exact hcp⟩,Z25]);refine Y9x (S:=fun w'=>w'.cell? ⟨g5,3,none⟩=some (.int .i64 (cc:Int))∧w'.cell? ⟨gv,2,none⟩=some (.slice x.pA x.pn x.pc)) (.tk 0 (.tk 1 (.tk 2 (.tk 3 (.tk 4 (.tk 5 (.tk 6 (.tk 7 (.tk 8 (.tk 9 (.tk 10 (.tk 11 (.tk 12 (.tk 13 (.rn 14 .fin))))))))))))))) (by kernel_rfl) (by kernel_rfl) (by kernel_rfl) (fun _ _ _ _ h=>h) ⟨s1,s2⟩ ?_
       iterate 14 (apply SeqW.take;(· rfl);(· (refine Or.inl ⟨?_,?_⟩;(· rfl);(· (intro w hSw;(try dsimp only at hSw);go_simp <;> with_reducible rfl))));simp only[Act.put,Z01,Z02,Z03,Z06,Z04,Z05])
       refine SeqW.run rfl (fun K hK hP=>?_);go_wp2_with fail
       refine Y9w _ (fun e=>by cases e) (fun _=>?_);go_wp2;refine hK.out _ _ ⟨s1,s2⟩ ?_;clear hK hP K;refine SeqW.done ?_;go_upto_region 12 with(fail)
       have St:Bx (Kf3 61 w w8.drew g3 g4 #[.int .i64 (ac:Int),.int .i64 m.name,.int .i64 m.desc,.slice m.A m.n m.c] #[.int .i64 0,.string ⟨#[]⟩,.string ⟨#[]⟩,.int .i64 0]):=bx (Ta.out.below (below_drewN (Below.refl _ w8) 1));have Ga:Bx (Bk w8.drew g5 61 #[.int .i64 (ac:Int),strQ nm,strQ ds,.int .i64 (cc:Int)]):=bx (Pk.out.drewN 1);generalize w8.drew=w9 at St Ga ⊢;have U7:Bx (0<cc∧cc<x.pn∧x.p.pool.length=x.pn):=bx ⟨hc0,hcp,Qg.out⟩;clear Ta Pk s1 s2 hgv hg5 Sz Qg hc0 hc0I hc0d hcp hcpI hcpd;obtain⟨gz,hgz⟩:∃gz,w9.heap.size=gz:=⟨_,rfl⟩;have hmm:=@run_makeMap Tryd.prog;have K0:KM w9 (w9.alloc (.map #[] 0)) gz 0 (fun _=>none):=⟨Y9z (Below.refl _ _) (Z00 _) _,Z32 hgz,MapT.madeAt w9 _ _ hgz⟩;obtain⟨v1,r1,K1⟩:=K0.put (by decide) [66] (by decide) (.int .i64 3);obtain⟨v2,r2,K2⟩:=K1.put (by decide) [67] (by decide) (.int .i64 3);obtain⟨v3,r3,K3⟩:=K2.put (by decide) [83] (by decide) (.int .i64 3);obtain⟨v4,r4,K4⟩:=K3.put (by decide) [90] (by decide) (.int .i64 3);obtain⟨v5,r5,K5⟩:=K4.put (by decide) [73] (by decide) (.int .i64 3);obtain⟨v6,r6,K6⟩:=K5.put (by decide) [74] (by decide) (.int .i64 5);obtain⟨v7,r7,K7⟩:=K6.put (by decide) ljsN (by decide) (.int .i64 8);have Ye:=bx K7;clear K0 K1 K2 K3 K4 K5 K6 K7;unfold strQ at r1 r2 r3 r4 r5 r6 r7;unfold ljsN at r7;go_upto_region 13 with(fail)
       clear r1 r2 r3 r4 r5 r6 r7 hmm hgz;have Ny:=bx (St.out.below Ye.out.1);have Km:=bx (Ga.out.below Ye.out.1 Ga.out.lt);obtain⟨tg,htg⟩:∃tg,tagOf ds=tg:=⟨_,rfl⟩;obtain⟨ok,hok⟩:∃ok,decide (tg≠0)=ok:=⟨_,rfl⟩;have Kl:Bx (MapT strQ v7 Tryd.prog 9 gz 7 tagG):=bx (Ye.out.2.2.ext (fun d=>(X4j d).symm))
       have hGv:(tagG ds).getD (.int .i64 0) = .int .i64 tg∧(tagG ds).isSome=ok:=by
        unfold tagG;rw[htg];by_cases h0:tg=0
        ·rw[if_pos h0]
         exact⟨by rw[h0];rfl,by rw[←hok,Z48 (fun e=>e h0)];rfl⟩
        ·rw[if_neg h0]
         exact⟨rfl,by rw[←hok,Z47 h0];rfl⟩
       have Tm:=bx hGv;rw[htg,hok]at Qf;have Qk:=bx hok;have S5:=bx htg;have Sk:=bx (keyQ ds Xy.out.2);clear Ye St Ga hGv htg hok;have c2:v7.cell? ⟨g5,2,none⟩=some (strQ ds):=(Km.out.cell 2).trans rfl;have hg5:=Km.out.lt;go_wp2_with (at_lookup;refine Y8y rfl (.tmp 98) (.tmp 100) _ rfl 3 strQK Tryd.underlying137 (.int .i64 0) (X3o _) rfl Kl.out ds _ rfl Sk.out (.int .i64 tg) ok Tm.out.1 Tm.out.2 ?_)
       have hvw:=HV.out.below Ny.out.low;obtain⟨ad,c,hA,hab,hcx,hc0,_⟩:=hvw.im.pool.at_ cstCels (k:=cc) (by have h1:x.pool.length=x.pn:=U7.out.2.2;rw[h1];exact U7.out.2.1);have Zh:=bx hcx.out;have s1:v7.drew.cell? ⟨g5,3,none⟩=some (.int .i64 (cc:Int)):=(Km.out.cell 3).trans rfl;have s2:v7.drew.cell? ⟨gv,2,none⟩=some (.slice (some ad) x.pn x.pc):=by rw[←hA];exact(hvw.box.cell 2).trans rfl
       have s3:v7.drew.cell? (ad.add (cc*5))=some (.int .i64 c.tag):=hc0 _ rfl;have hgv:=hvw.lt;have hcpI:(cc:Int)<(x.pn:Int):=by have:=U7.out;omega
       have F7:Bx (tagK x.p.pool (cc:Int)=c.tag):=bx (by unfold tagK;rw[if_neg (by have:=U7.out.1;omega),Z30,show x.p.pool[cc]? = some c from Zh.out]);rw[F7.out]at Qf;clear hvw hcx hc0 hA F7 Zh Kl Tm Sk c2;cases ok with
       | false=>
        have HX:Bx (R=none):=bx (by rw[Qf.out];rfl);refine Y9x (S:=fun w'=>w'.cell? ⟨g5,3,none⟩=some (.int .i64 (cc:Int))∧w'.cell? ⟨gv,2,none⟩=some (.slice (some ad) x.pn x.pc)∧w'.cell? (ad.add (cc*5))=some (.int .i64 c.tag)) (.tk 0 (.tk 1 (.tk 2 (.tk 3 (.tk 4 (.tk 5 (.tk 6 (.tk 7 (.tk 8 (.tk 9 (.tk 10 (.tk 11 (.tk 12 (.tk 13 (.tk 14 (.rn 15 .fin)))))))))))))))) (by kernel_rfl) (by kernel_rfl) (by kernel_rfl) (fun _ _ _ _ h=>h) ⟨s1,s2,s3⟩ ?_
        iterate 2 (apply SeqW.take;(· rfl);(· (refine Or.inl ⟨?_,?_⟩;(· rfl);(· (intro w hSw;(try dsimp only at hSw);go_simp <;> with_reducible rfl))));simp only[Act.put,Z01,Z02,Z03,Z06,Z04,Z05])
        refine SeqW.take (o:=?sp56) ?so56 (Or.inr ⟨?sw56,rfl⟩) ?sr56
        case so56=>rfl
        case sw56=>rfl
        simp only[Act.put,Z01,Z02,Z03,Z06,Z04,Z05];refine SeqW.take (o:=?sp57) ?so57 (Or.inr ⟨?sw57,rfl⟩) ?sr57
        case so57=>rfl
        case sw57=>rfl
        simp only[Act.put,Z01,Z02,Z03,Z06,Z04,Z05];refine SeqW.take (o:=?sp58) ?so58 (Or.inr ⟨?sw58,rfl⟩) ?sr58
        case so58=>rfl
        case sw58=>rfl
        simp only[Act.put,Z01,Z02,Z03,Z06,Z04,Z05];refine SeqW.take (o:=?sp59) ?so59 (Or.inr ⟨?sw59,rfl⟩) ?sr59
        case so59=>rfl
        case sw59=>rfl
        simp only[Act.put,Z01,Z02,Z03,Z06,Z04,Z05];refine SeqW.take (o:=?sp60) ?so60 (Or.inr ⟨?sw60,rfl⟩) ?sr60
        case so60=>rfl
        case sw60=>rfl
        simp only[Act.put,Z01,Z02,Z03,Z06,Z04,Z05];refine SeqW.take (o:=?sp61) ?so61 (Or.inr ⟨?sw61,rfl⟩) ?sr61
        case so61=>rfl
        case sw61=>rfl
        simp only[Act.put,Z01,Z02,Z03,Z06,Z04,Z05];refine SeqW.take (o:=?sp62) ?so62 (Or.inr ⟨?sw62,rfl⟩) ?sr62
        case so62=>rfl
        case sw62=>rfl
        simp only[Act.put,Z01,Z02,Z03,Z06,Z04,Z05];refine SeqW.take (o:=?sp63) ?so63 (Or.inr ⟨?sw63,rfl⟩) ?sr63
        case so63=>rfl
        case sw63=>rfl
        simp only[Act.put,Z01,Z02,Z03,Z06,Z04,Z05];refine SeqW.take (o:=?sp64) ?so64 (Or.inr ⟨?sw64,rfl⟩) ?sr64
        case so64=>rfl
        case sw64=>rfl
        simp only[Act.put,Z01,Z02,Z03,Z06,Z04,Z05];refine SeqW.take (o:=?sp65) ?so65 (Or.inr ⟨?sw65,rfl⟩) ?sr65
        case so65=>rfl
        case sw65=>rfl
        simp only[Act.put,Z01,Z02,Z03,Z06,Z04,Z05];refine SeqW.take (o:=?sp66) ?so66 (Or.inr ⟨?sw66,rfl⟩) ?sr66
        case so66=>rfl
        case sw66=>rfl
        simp only[Act.put,Z01,Z02,Z03,Z06,Z04,Z05];refine SeqW.take (o:=?sp67) ?so67 (Or.inr ⟨?sw67,rfl⟩) ?sr67
        case so67=>rfl
        case sw67=>rfl
        simp only[Act.put,Z01,Z02,Z03,Z06,Z04,Z05]
        iterate 1 (apply SeqW.take;(· rfl);(· (refine Or.inl ⟨?_,?_⟩;(· rfl);(· (intro w hSw;(try dsimp only at hSw);go_simp <;> with_reducible rfl))));simp only[Act.put,Z01,Z02,Z03,Z06,Z04,Z05])
        refine SeqW.run rfl (fun K hK hP=>?_);go_wp2_with fail
        refine Y9w _ (fun _=>?_) (fun e=>by cases e);go_wp2;refine hP.out _ _ _ ?_;exact⟨rfl,Yh.out _ HX.out (below_drewN Ny.out.low 1)⟩
       | true=>
       have Kk:Bx (R=gdK (decide (c.tag=tg)) (some ⟨(ac:Int),nm,ds,(cc:Int)⟩)):=bx (by rw[Qf.out,Z25]);obtain⟨qt,hqt⟩:∃qt,(c.tag==tg)=qt:=⟨_,rfl⟩;have F6:Bx (decide (c.tag=tg)=qt):=bx (by rw[←hqt];rfl);refine Y9x (S:=fun w'=>w'.cell? ⟨g5,3,none⟩=some (.int .i64 (cc:Int))∧w'.cell? ⟨gv,2,none⟩=some (.slice (some ad) x.pn x.pc)∧w'.cell? (ad.add (cc*5))=some (.int .i64 c.tag)) (.tk 0 (.tk 1 (.tk 2 (.tk 3 (.tk 4 (.tk 5 (.tk 6 (.tk 7 (.tk 8 (.tk 9 (.tk 10 (.tk 11 (.tk 12 (.tk 13 (.tk 14 (.rn 15 .fin)))))))))))))))) (by kernel_rfl) (by kernel_rfl) (by kernel_rfl) (fun _ _ _ _ h=>h) ⟨s1,s2,s3⟩ ?_
       iterate 15 (apply SeqW.take;(· rfl);(· (refine Or.inl ⟨?_,?_⟩;(· rfl);(· (intro w hSw;(try dsimp only at hSw);go_simp <;> with_reducible rfl))));simp only[Act.put,Z01,Z02,Z03,Z06,Z04,Z05])
       refine SeqW.run rfl (fun K hK hP=>?_);go_wp2_with fail
       refine Y9w _ (fun e=>?_) (fun e=>?_)
       ·subst e
        have HX:Bx (R=none):=bx (by rw[Kk.out,F6.out];rfl);go_wp2;refine hP.out _ _ _ ?_;exact⟨rfl,Yh.out _ HX.out (below_drewN Ny.out.low 1)⟩
       subst e;have HX:Bx (R=some ⟨(ac:Int),nm,ds,(cc:Int)⟩):=bx (by rw[Kk.out,F6.out];rfl);go_wp2;refine hK.out _ _ ⟨s1,s2,s3⟩ ?_;clear hK hP K;refine SeqW.done ?_;have Mm:Bx (Kf3 61 w v7.drew g3 g4 #[.int .i64 (ac:Int),.int .i64 m.name,.int .i64 m.desc,.slice m.A m.n m.c] #[.int .i64 0,.string ⟨#[]⟩,.string ⟨#[]⟩,.int .i64 0]):=bx (Ny.out.below (below_drewN (Below.refl _ v7) 1));have Ml:Bx (Bk v7.drew g5 61 #[.int .i64 (ac:Int),strQ nm,strQ ds,.int .i64 (cc:Int)]):=bx (Km.out.drewN 1);go_upto_region 15 with(fail)
       generalize v7.drew=va at Mm Ml ⊢;have c0:va.cell? ⟨g5,0,none⟩=some (.int .i64 (ac:Int)):=(Ml.out.cell 0).trans rfl;have c1:va.cell? ⟨g5,1,none⟩=some (strQ nm):=(Ml.out.cell 1).trans rfl;have c2:va.cell? ⟨g5,2,none⟩=some (strQ ds):=(Ml.out.cell 2).trans rfl;have c3:va.cell? ⟨g5,3,none⟩=some (.int .i64 (cc:Int)):=(Ml.out.cell 3).trans rfl;have Yj:=bx Mm.out.bk4;go_wp2_with (refine wpList_store_row rfl 61 (.tmp 4) (.tmp 120) rfl g4 #[.int .i64 (ac:Int),strQ nm,strQ ds,.int .i64 (cc:Int)] rfl rfl 61 #[.int .i64 0,.string ⟨#[]⟩,.string ⟨#[]⟩,.int .i64 0] Yj.out Y5e rfl (Y2g _ _ _ _) ?_)
       simp only[Act.put];have hb4:=Yj.out.setRow #[.int .i64 (ac:Int),strQ nm,strQ ds,.int .i64 (cc:Int)];have d0:=hb4.cell 0;have d1:=hb4.cell 1;have d2:=hb4.cell 2;have d3:=hb4.cell 3;simp only[Z19,List.getElem?_cons_zero,Z21]at d0 d1 d2 d3;rw[HX.out];exact bodyPost_ret (v := .agg #[.int .i64 (ac:Int),strQ nm,strQ ds,.int .i64 (cc:Int)]) (by simp [results,Tryd.results41,go_sem,d0,d1,d2,d3]) rfl ⟨rfl,Mm.out.low.trans ((Y9t va g4 _).below Mm.out.low.size (fun k hk e=>by have e:k=g4:=e;have:=Mm.out.od;omega))⟩
end Go.Proofs.YtpmfiegfbmamiaaDoor
