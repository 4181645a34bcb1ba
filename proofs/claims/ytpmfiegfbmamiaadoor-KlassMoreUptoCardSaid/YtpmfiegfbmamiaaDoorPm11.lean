/- Contract of klass's view: method. -/
import Derived.Test.YtpmfiegfbmamiaaDoorPm8
import Derived.Test.YtpmfiegfbmamiaaDoorPm10
namespace Go.Proofs.YtpmfiegfbmamiaaDoor
set_option maxRecDepth 100000
set_option maxHeartbeats 8000000
open Go.RowKit
set_option linter.unusedSimpArgs false
theorem Y2j (ac:Int) (nm ds:List UInt8) (th:Bool) (st lc:Int) (A1 A2 A3:Option Addr) (n1 n2 n3 c1 c2 c3:Nat):(mtA ac nm ds th st lc (.slice A1 n1 c1) (.slice A2 n2 c2) (.slice A3 n3 c3)).all (·.oneCell')=true:=by simp [mtA,strQ,Value.oneCell']
def z9:Array Value:=#[.int .i64 0,.string ⟨#[]⟩,.string ⟨#[]⟩,.bool false,.int .i64 0,.int .i64 0,.slice none 0 0,.slice none 0 0,.slice none 0 0]
def MthP (w:World) (m:Mth) (e:Ending) (w':World):Prop:=∃y:MtE,y.p=m∧MtX w' (Nw w w') y∧e = .returned (.agg (mtA y.access y.name y.desc y.there y.stack y.locals (slV y.code) y.hs.v y.fs.v))
section
variable {pool:List Cst} {b:Bool} {x:Mem} {n d:List UInt8}
theorem X4b (h:txtK pool x.name=none):mthK pool b x=none:=by
 unfold mthK;rw[h]
 rfl
theorem X8t (h:txtK pool x.name=some n) (h2:txtK pool x.desc=none):mthK pool b x=none:=by
 unfold mthK;rw[h,h2]
 rfl
def nmC (b:Bool) (ac:Nat) (n d r:List UInt8):Bool:=if n=clinitL then decide (ac &&& 8≠0)&&decide (d=[40,41,86]) else if n=initL then !b&&decide (r=[86])&&bitsK ac 7 else !b||decide ((ac:Int)=1025)
def mthR (pool:List Cst) (ac:Nat) (n d:List UInt8) (ps:List (List UInt8)) (cs:List (List UInt8)):Option Mth:=
 if decide (ac &&& 1024≠0)=true then gdK (decide (cs=[])) (some ⟨ac,n,d,false,0,0,[],[],[]⟩) else match cs with
  | [c]=>(codK pool ((if decide (ac &&& 8≠0)=true then 0 else 1)+(ps.map slotsN).sum) c).map fun k=>⟨ac,n,d,true,k.stack,k.locals,k.code,k.handlers,k.frames⟩
  | _=>none
theorem W9c {ac:Nat} (h:txtK pool x.name=some n) (h2:txtK pool x.desc=some d) (ha:x.access=(ac:Int)):mthK pool b x=gdK (accK ac 1055) ((methB d).bind fun pr=>gdK (memberB n true) (gdK (!(decide (ac &&& 1024≠0))||bitsK ac 1029) (gdK (nmC b ac n d pr.2) ((namK pool cdN x.attrs).bind (mthR pool ac n d pr.1))))):=by
 unfold mthK;rw[h,h2,ha]
 rfl
end
theorem Y0v:∀(f:Nat) (ps:List (List UInt8)) (k:Int) (l:List UInt8) (qs:List (List UInt8)) (r:List UInt8),methGo f ps k l=some (qs,r)→qs.length≤ps.length+f:=by
 intro f
 induction f with
 | zero=>intro ps k l qs r h;cases h
 | succ f ih=>
  intro ps k l qs r h;cases l with
  | nil=>cases h
  | cons c t=>
   unfold methGo at h
   split at h
   ·split at h
    ·injection h with h;injection h with h _;subst h;omega
    ·cases h
   ·split at h
    ·cases h
    ·have:=ih _ _ _ _ _ h
     rw[Z09]at this;simp only[Z11,Z13]at this;omega
theorem X2k {l r:List UInt8} {ps:List (List UInt8)} (h:methB l=some (ps,r)):ps.length≤l.length:=by
 unfold methB at h
 split at h
 ·cases h
 ·split at h
  ·have:=Y0v _ _ _ _ _ _ h
   simp only[Z13,Z11]at this ⊢;omega
  ·cases h
theorem W5k {pool:List Cst} {ac:Nat} {n d:List UInt8} {ps cs:List (List UInt8)} (h:decide (ac &&& 1024≠0)=true):mthR pool ac n d ps cs=gdK (decide (cs=[])) (some ⟨ac,n,d,false,0,0,[],[],[]⟩):=by
 unfold mthR;rw[if_pos h]
theorem W5w {pool:List Cst} {ac:Nat} {n d c:List UInt8} {ps:List (List UInt8)} {sta:Bool} (h:decide (ac &&& 1024≠0)=false) (h2:decide (ac &&& 8≠0)=sta):mthR pool ac n d ps [c]=(codK pool ((if sta=true then 0 else 1)+(ps.map slotsN).sum) c).map fun k=>⟨ac,n,d,true,k.stack,k.locals,k.code,k.handlers,k.frames⟩:=by
 unfold mthR;rw[if_neg (by rw[h];decide),h2]
theorem W5r {pool:List Cst} {ac:Nat} {n d:List UInt8} {ps cs:List (List UInt8)} (h:decide (ac &&& 1024≠0)=false) (h2:cs.length≠1):mthR pool ac n d ps cs=none:=by
 unfold mthR;rw[if_neg (by rw[h];decide)]
 match cs,h2 with
 | [],_=>rfl
 | [c],h=>exact absurd rfl h
 | _::_::_,_=>rfl
theorem W6j (pool:List Cst) (least:Int) (b:List UInt8):codK pool least b=(codR pool least b 0).map (·.1):=rfl
theorem X8u (ps:List (List UInt8)) (i:Nat) (p:List UInt8) (h:ps[i]? = some p):((ps.take (i+1)).map slotsN).sum=((ps.take i).map slotsN).sum+slotsN p:=by
 obtain⟨hi,e⟩:=Z24.1 h;rw[List.take_succ_eq_append_getElem hi,e,Z34,List.sum_append]
 simp
theorem W6p (ps:List (List UInt8)) (i:Nat):0≤((ps.take i).map slotsN).sum∧((ps.take i).map slotsN).sum≤2*(i:Int):=by
 induction i with
 | zero=>simp
 | succ i ih=>
  cases h:ps[i]? with
  | none=>
   have:ps.take (i+1)=ps.take i:=by
    have:=List.getElem?_eq_none_iff.1 h
    rw[Z15 (by omega),Z15 this]
   rw[this];omega
  | some p=>
   rw[X8u ps i p h]
   have:=Y7d p
   omega
theorem Y0m (x:ImE) (b:Bool) (gv:Nat) (m:MmE) (ac:Nat) (w:World) (hv:Vw w gv x b) (hm:MmB w w.heap.size m) (hac:m.access=(ac:Int)) (hac2:ac<65536) (hl:m.n≤100000000) (hd:∀a∈m.L,(a.s.n:Int)≤140737488355328) :
  Calls Tryd.prog 42 #[.pointer (some ⟨gv,0,none⟩),.agg #[.int .i64 (ac:Int),.int .i64 m.name,.int .i64 m.desc,.slice m.A m.n m.c]] w (KlP (mthK x.p.pool b m.p) (MthP w) w):=by
 obtain⟨R,hR⟩:∃R,mthK x.p.pool b m.p=R:=⟨_,rfl⟩;rw[hR];have HR:=bx hR;have HV:=bx hv;have HM:=bx hm;have Jf:=bx hac;have Yh:Bx (∀wq,R=none→Below w.heap.size w wq→KlP R (MthP w) w (.panicked brkC) wq):=bx (fun wq h c=>by rw[h];exact⟨rfl,c⟩);have HGW:Bx (gv<w.heap.size):=bx hv.lt;have HDD:=bx hd;clear hv hR hm hac hd
 go_enter Tryd.func42,Tryd.ntmps42
 go_upto_region 1 with(fail)
 obtain⟨g3,hg3⟩:∃g3,w.heap.size=g3:=⟨_,rfl⟩;obtain⟨g4,hg4⟩:∃g4,w.heap.size+1=g4:=⟨_,rfl⟩;obtain⟨w2,hw2⟩:∃w2,((w.alloc (.cells #[.int .i64 (ac:Int),.int .i64 m.name,.int .i64 m.desc,.slice m.A m.n m.c] 43)).alloc (.cells #[.int .i64 0,.string ⟨#[]⟩,.string ⟨#[]⟩,.bool false,.int .i64 0,.int .i64 0,.slice none 0 0,.slice none 0 0,.slice none 0 0] 51))=w2:=⟨_,rfl⟩;have hf:Kf3 51 w w2 g3 g4 #[.int .i64 (ac:Int),.int .i64 m.name,.int .i64 m.desc,.slice m.A m.n m.c] z9:=by rw[←hw2,←hg3,←hg4];exact⟨(Bk.new w _ _).alloc _,Bk.newAt _ _ _ (by simp),Y9z (Y9z (Below.refl _ w) (Z00 _) _) (by simp) _,Z00 _,Z38 _⟩
 rw[hw2,hg4,hg3];have HF:Bx (Kf3 51 w w2.drew g3 g4 #[.int .i64 (ac:Int),.int .i64 m.name,.int .i64 m.desc,.slice m.A m.n m.c] z9):=bx (hf.below (below_drewN (Below.refl _ w2) 1));clear hf hw2 hg3 hg4
 go_cut [5] from 15 to 25 (fun v wx=>∃(g5:Nat) (nm ds:List UInt8),v = .pointer (some ⟨g5,0,none⟩)∧Bx (txtK x.p.pool m.name=some nm∧txtK x.p.pool m.desc=some ds∧g4<g5∧Bk wx g5 51 (mtA ac nm ds false 0 0 (.slice none 0 0) (.slice none 0 0) (.slice none 0 0))∧Kf3 51 w wx g3 g4 #[.int .i64 (ac:Int),.int .i64 m.name,.int .i64 m.desc,.slice m.A m.n m.c] z9))
 case first=>
  -- DEV{
  refine Y9x (S:=fun w'=>w'.cell? ⟨g3,0,none⟩=some (.int .i64 (ac:Int))∧w'.cell? ⟨g3,1,none⟩=some (.int .i64 m.name)∧w'.cell? ⟨g3,2,none⟩=some (.int .i64 m.desc)) (.tk 0 (.tk 1 (.tk 2 (.tk 3 (.tk 4 (.tk 6 (.tk 7 (.tk 8 (.alt 5 (.alt 9 (.tk 10 (.rn 11 (.rn 12 .fin))) (.rn 11 (.rn 9 (.tk 10 (.rn 12 .fin))))) (.rn 11 (.rn 5 (.rn 9 (.tk 10 (.rn 12 .fin)))))))))))))) (by kernel_rfl) (by kernel_rfl) (by kernel_rfl) (fun _ _ _ _ h=>h) ⟨(HF.out.bk3.cell 0).trans rfl,(HF.out.bk3.cell 1).trans rfl,(HF.out.bk3.cell 2).trans rfl⟩ ?_;generalize w2.drew=v0 at HF ⊢
  iterate 8 (apply SeqW.take;(· rfl);(· (refine Or.inl ⟨?_,?_⟩;(· rfl);(· (intro w hSw;(try dsimp only at hSw);go_simp <;> with_reducible rfl))));simp only[Act.put,Z01,Z02,Z03,Z06,Z04,Z05])
  refine SeqW.both rfl (fun K hK hP=>?_) ?_
  ·go_wp2_with fail
   refine Y9f (x:=x) (b:=b) m.name (HV.out.below HF.out.low) ?_ ?_
   ·intro h wq hb
    go_wp2;refine hP.out _ _ _ ?_;exact⟨rfl,Yh.out _ (by rw[←HR.out];exact X4b h) (HF.out.low.trans (hb.mono HF.out.low.size))⟩
   intro nm hs v1 hb;have Tp:=bx hs;have HF_:=bx (HF.out.below hb);clear HF hs hb;have HF:=HF_;clear HF_;go_wp2;refine hK.out _ _ ⟨(HF.out.bk3.cell 0).trans rfl,(HF.out.bk3.cell 1).trans rfl,(HF.out.bk3.cell 2).trans rfl⟩ ?_;clear hK hP K;refine SeqW.both rfl (fun K hK hP=>?_) ?_
   ·go_wp2_with fail
    refine Y9f (x:=x) (b:=b) m.desc (HV.out.below HF.out.low) ?_ ?_
    ·intro h wq hb
     go_wp2;refine hP.out _ _ _ ?_;exact⟨rfl,Yh.out _ (by rw[←HR.out];exact X8t Tp.out h) (HF.out.low.trans (hb.mono HF.out.low.size))⟩
    intro ds hs v2 hb;have Se:=bx hs;have HF_:=bx (HF.out.below hb);clear HF hs hb;have HF:=HF_;clear HF_;go_wp2;refine hK.out _ _ ⟨(HF.out.bk3.cell 0).trans rfl,(HF.out.bk3.cell 1).trans rfl,(HF.out.bk3.cell 2).trans rfl⟩ ?_;clear hK hP K
    iterate 1 (apply SeqW.take;(· rfl);(· (refine Or.inl ⟨?_,?_⟩;(· rfl);(· (intro w hSw;(try dsimp only at hSw);go_simp <;> with_reducible rfl))));simp only[Act.put,Z01,Z02,Z03,Z06,Z04,Z05])
    refine SeqW.run rfl (fun K hK hP=>?_);go_wp2_with fail
    have HF_:=bx (HF.out.below (Y9z (Below.refl v2.heap.size v2) (Z00 _) (.cells #[.int .i64 0,.string ⟨#[]⟩,.string ⟨#[]⟩,.bool false,.int .i64 0,.int .i64 0,.slice none 0 0,.slice none 0 0,.slice none 0 0] 51)));have H5:=bx (Bk.new v2 51 #[.int .i64 0,.string ⟨#[]⟩,.string ⟨#[]⟩,.bool false,.int .i64 0,.int .i64 0,.slice none 0 0,.slice none 0 0,.slice none 0 0]);obtain⟨g5,hg5⟩:∃g5,v2.heap.size=g5:=⟨_,rfl⟩;have Yq:Bx (g4<g5):=bx (by have:=HF.out.bk4.lt;omega);obtain⟨v3,hv⟩:∃v3,v2.alloc (.cells #[.int .i64 0,.string ⟨#[]⟩,.string ⟨#[]⟩,.bool false,.int .i64 0,.int .i64 0,.slice none 0 0,.slice none 0 0,.slice none 0 0] 51)=v3:=⟨_,rfl⟩;rw[hg5,hv];rw[hv]at HF_ H5;rw[hg5]at H5;clear HF hg5 hv;have HF:=HF_;clear HF_;refine hK.out _ _ ⟨(HF.out.bk3.cell 0).trans rfl,(HF.out.bk3.cell 1).trans rfl,(HF.out.bk3.cell 2).trans rfl⟩ ?_;clear hK hP K;refine SeqW.run rfl (fun K hK hP=>?_);refine wpList_store_row rfl 51 (.tmp 5) (.tmp 25) rfl g5 (mtA ac nm ds false 0 0 (.slice none 0 0) (.slice none 0 0) (.slice none 0 0)) rfl rfl 51 #[.int .i64 0,.string ⟨#[]⟩,.string ⟨#[]⟩,.bool false,.int .i64 0,.int .i64 0,.slice none 0 0,.slice none 0 0,.slice none 0 0] H5.out Y6h rfl (Y2j _ _ _ _ _ _ _ _ _ _ _ _ _ _ _) ?_;refine wpList_nil ?_;have HF_:=bx (HF.out.row Yq.out (mtA ac nm ds false 0 0 (.slice none 0 0) (.slice none 0 0) (.slice none 0 0)));have H5_:=bx (H5.out.setRow (mtA ac nm ds false 0 0 (.slice none 0 0) (.slice none 0 0) (.slice none 0 0)));clear HF H5;have HF:=HF_;have H5:=H5_;clear HF_ H5_;refine hK.out _ _ ⟨(HF.out.bk3.cell 0).trans rfl,(HF.out.bk3.cell 1).trans rfl,(HF.out.bk3.cell 2).trans rfl⟩ ?_;clear hK hP K;refine SeqW.done ?_;go_wp2
    go_meet
    exact⟨g5,nm,ds,rfl,bx ⟨Tp.out,Se.out,Yq.out,H5.out,HF.out⟩⟩
   ·refine SeqW.run rfl (fun K hK hP=>?_)
    go_wp2_with fail
    have HF_:=bx (HF.out.below (Y9z (Below.refl v1.heap.size v1) (Z00 _) (.cells #[.int .i64 0,.string ⟨#[]⟩,.string ⟨#[]⟩,.bool false,.int .i64 0,.int .i64 0,.slice none 0 0,.slice none 0 0,.slice none 0 0] 51)));have H5:=bx (Bk.new v1 51 #[.int .i64 0,.string ⟨#[]⟩,.string ⟨#[]⟩,.bool false,.int .i64 0,.int .i64 0,.slice none 0 0,.slice none 0 0,.slice none 0 0]);obtain⟨g5,hg5⟩:∃g5,v1.heap.size=g5:=⟨_,rfl⟩;have Yq:Bx (g4<g5):=bx (by have:=HF.out.bk4.lt;omega);obtain⟨v5,hv⟩:∃v5,v1.alloc (.cells #[.int .i64 0,.string ⟨#[]⟩,.string ⟨#[]⟩,.bool false,.int .i64 0,.int .i64 0,.slice none 0 0,.slice none 0 0,.slice none 0 0] 51)=v5:=⟨_,rfl⟩;rw[hg5,hv];rw[hv]at HF_ H5;rw[hg5]at H5;clear HF hg5 hv;have HF:=HF_;clear HF_;refine hK.out _ _ ⟨(HF.out.bk3.cell 0).trans rfl,(HF.out.bk3.cell 1).trans rfl,(HF.out.bk3.cell 2).trans rfl⟩ ?_;clear hK hP K;refine SeqW.run rfl (fun K hK hP=>?_);go_wp2_with fail
    refine Y9f (x:=x) (b:=b) m.desc (HV.out.below HF.out.low) ?_ ?_
    ·intro h wq hb
     go_wp2;refine hP.out _ _ _ ?_;exact⟨rfl,Yh.out _ (by rw[←HR.out];exact X8t Tp.out h) (HF.out.low.trans (hb.mono HF.out.low.size))⟩
    intro ds hs v6 hb;have Se:=bx hs;have HF_:=bx (HF.out.below hb);have H5_:=bx (H5.out.below hb H5.out.lt);clear HF hs hb H5;have HF:=HF_;have H5:=H5_;clear HF_ H5_;go_wp2;refine hK.out _ _ ⟨(HF.out.bk3.cell 0).trans rfl,(HF.out.bk3.cell 1).trans rfl,(HF.out.bk3.cell 2).trans rfl⟩ ?_;clear hK hP K
    iterate 1 (apply SeqW.take;(· rfl);(· (refine Or.inl ⟨?_,?_⟩;(· rfl);(· (intro w hSw;(try dsimp only at hSw);go_simp <;> with_reducible rfl))));simp only[Act.put,Z01,Z02,Z03,Z06,Z04,Z05])
    refine SeqW.run rfl (fun K hK hP=>?_);refine wpList_store_row rfl 51 (.tmp 5) (.tmp 25) rfl g5 (mtA ac nm ds false 0 0 (.slice none 0 0) (.slice none 0 0) (.slice none 0 0)) rfl rfl 51 #[.int .i64 0,.string ⟨#[]⟩,.string ⟨#[]⟩,.bool false,.int .i64 0,.int .i64 0,.slice none 0 0,.slice none 0 0,.slice none 0 0] H5.out Y6h rfl (Y2j _ _ _ _ _ _ _ _ _ _ _ _ _ _ _) ?_;refine wpList_nil ?_;have HF_:=bx (HF.out.row Yq.out (mtA ac nm ds false 0 0 (.slice none 0 0) (.slice none 0 0) (.slice none 0 0)));have H5_:=bx (H5.out.setRow (mtA ac nm ds false 0 0 (.slice none 0 0) (.slice none 0 0) (.slice none 0 0)));clear HF H5;have HF:=HF_;have H5:=H5_;clear HF_ H5_;refine hK.out _ _ ⟨(HF.out.bk3.cell 0).trans rfl,(HF.out.bk3.cell 1).trans rfl,(HF.out.bk3.cell 2).trans rfl⟩ ?_;clear hK hP K;refine SeqW.done ?_;go_wp2
    go_meet
    exact⟨g5,nm,ds,rfl,bx ⟨Tp.out,Se.out,Yq.out,H5.out,HF.out⟩⟩
  ·refine SeqW.run rfl (fun K hK hP=>?_)
   go_wp2_with fail
   have HF_:=bx (HF.out.below (Y9z (Below.refl v0.heap.size v0) (Z00 _) (.cells #[.int .i64 0,.string ⟨#[]⟩,.string ⟨#[]⟩,.bool false,.int .i64 0,.int .i64 0,.slice none 0 0,.slice none 0 0,.slice none 0 0] 51)));have H5:=bx (Bk.new v0 51 #[.int .i64 0,.string ⟨#[]⟩,.string ⟨#[]⟩,.bool false,.int .i64 0,.int .i64 0,.slice none 0 0,.slice none 0 0,.slice none 0 0]);obtain⟨g5,hg5⟩:∃g5,v0.heap.size=g5:=⟨_,rfl⟩;have Yq:Bx (g4<g5):=bx (by have:=HF.out.bk4.lt;omega);obtain⟨v8,hv⟩:∃v8,v0.alloc (.cells #[.int .i64 0,.string ⟨#[]⟩,.string ⟨#[]⟩,.bool false,.int .i64 0,.int .i64 0,.slice none 0 0,.slice none 0 0,.slice none 0 0] 51)=v8:=⟨_,rfl⟩;rw[hg5,hv];rw[hv]at HF_ H5;rw[hg5]at H5;clear HF hg5 hv;have HF:=HF_;clear HF_;refine hK.out _ _ ⟨(HF.out.bk3.cell 0).trans rfl,(HF.out.bk3.cell 1).trans rfl,(HF.out.bk3.cell 2).trans rfl⟩ ?_;clear hK hP K;refine SeqW.run rfl (fun K hK hP=>?_);go_wp2_with fail
   refine Y9f (x:=x) (b:=b) m.name (HV.out.below HF.out.low) ?_ ?_
   ·intro h wq hb
    go_wp2;refine hP.out _ _ _ ?_;exact⟨rfl,Yh.out _ (by rw[←HR.out];exact X4b h) (HF.out.low.trans (hb.mono HF.out.low.size))⟩
   intro nm hs v9 hb;have Tp:=bx hs;have HF_:=bx (HF.out.below hb);have H5_:=bx (H5.out.below hb H5.out.lt);clear HF hs hb H5;have HF:=HF_;have H5:=H5_;clear HF_ H5_;go_wp2;refine hK.out _ _ ⟨(HF.out.bk3.cell 0).trans rfl,(HF.out.bk3.cell 1).trans rfl,(HF.out.bk3.cell 2).trans rfl⟩ ?_;clear hK hP K;refine SeqW.run rfl (fun K hK hP=>?_);go_wp2_with fail
   refine Y9f (x:=x) (b:=b) m.desc (HV.out.below HF.out.low) ?_ ?_
   ·intro h wq hb
    go_wp2;refine hP.out _ _ _ ?_;exact⟨rfl,Yh.out _ (by rw[←HR.out];exact X8t Tp.out h) (HF.out.low.trans (hb.mono HF.out.low.size))⟩
   intro ds hs v10 hb;have Se:=bx hs;have HF_:=bx (HF.out.below hb);have H5_:=bx (H5.out.below hb H5.out.lt);clear HF hs hb H5;have HF:=HF_;have H5:=H5_;clear HF_ H5_;go_wp2;refine hK.out _ _ ⟨(HF.out.bk3.cell 0).trans rfl,(HF.out.bk3.cell 1).trans rfl,(HF.out.bk3.cell 2).trans rfl⟩ ?_;clear hK hP K
   iterate 1 (apply SeqW.take;(· rfl);(· (refine Or.inl ⟨?_,?_⟩;(· rfl);(· (intro w hSw;(try dsimp only at hSw);go_simp <;> with_reducible rfl))));simp only[Act.put,Z01,Z02,Z03,Z06,Z04,Z05])
   refine SeqW.run rfl (fun K hK hP=>?_);refine wpList_store_row rfl 51 (.tmp 5) (.tmp 25) rfl g5 (mtA ac nm ds false 0 0 (.slice none 0 0) (.slice none 0 0) (.slice none 0 0)) rfl rfl 51 #[.int .i64 0,.string ⟨#[]⟩,.string ⟨#[]⟩,.bool false,.int .i64 0,.int .i64 0,.slice none 0 0,.slice none 0 0,.slice none 0 0] H5.out Y6h rfl (Y2j _ _ _ _ _ _ _ _ _ _ _ _ _ _ _) ?_;refine wpList_nil ?_;have HF_:=bx (HF.out.row Yq.out (mtA ac nm ds false 0 0 (.slice none 0 0) (.slice none 0 0) (.slice none 0 0)));have H5_:=bx (H5.out.setRow (mtA ac nm ds false 0 0 (.slice none 0 0) (.slice none 0 0) (.slice none 0 0)));clear HF H5;have HF:=HF_;have H5:=H5_;clear HF_ H5_;refine hK.out _ _ ⟨(HF.out.bk3.cell 0).trans rfl,(HF.out.bk3.cell 1).trans rfl,(HF.out.bk3.cell 2).trans rfl⟩ ?_;clear hK hP K;refine SeqW.done ?_;go_wp2
   go_meet
   exact⟨g5,nm,ds,rfl,bx ⟨Tp.out,Se.out,Yq.out,H5.out,HF.out⟩⟩
  -- DEV}
 case rest=>
  obtain⟨g5,nm,ds,rfl,hC⟩:=hcut;have Vf:=bx (HR.out.symm.trans (W9c (b:=b) (x:=m.p) hC.out.1 hC.out.2.1 Jf.out));have Yq:=bx hC.out.2.2.1;have H5:=bx hC.out.2.2.2.1;have Wt:=bx hC.out.2.2.2.2;have Xy:Bx (nm.length≤2000000∧ds.length≤2000000):=bx ⟨txt_len HV.out.txt hC.out.1,txt_len HV.out.txt hC.out.2.1⟩;clear hC HF HR;have c0:wc.cell? ⟨g5,0,none⟩=some (.int .i64 (ac:Int)):=(H5.out.cell 0).trans rfl;have c1:wc.cell? ⟨g5,1,none⟩=some (strQ nm):=(H5.out.cell 1).trans rfl;have c2:wc.cell? ⟨g5,2,none⟩=some (strQ ds):=(H5.out.cell 2).trans rfl;have hg5:=H5.out.lt;unfold strQ at c1 c2;go_step;go_wp2_with fail
  refine Y4h ac 1055 wc hac2 (by decide) ?_ ?_
  ·intro h
   have HX:Bx (R=none):=bx (by rw[Vf.out,h];rfl);go_wp2;exact⟨rfl,Yh.out _ HX.out Wt.out.low⟩
  intro ha;have To:Bx (R=((methB ds).bind fun pr=>gdK (memberB nm true) (gdK (!(decide (ac &&& 1024≠0))||bitsK ac 1029) (gdK (nmC b ac nm ds pr.2) ((namK x.p.pool cdN m.p.attrs).bind (mthR x.p.pool ac nm ds pr.1)))))):=bx (by rw[Vf.out,ha];rfl);clear Vf ha;go_wp2_with fail
  refine X9o (x:=x) (b:=b) ds (HV.out.below Wt.out.low) Xy.out.2 ?_ ?_
  ·intro h A6 n6 c6 r6 k6 w6 hk6 hb6
   have hkb:(k6==0)=false:=(by simpa using hk6);have HX:Bx (R=none):=bx (by rw[To.out,h];rfl);have Re:=bx (Wt.out.below hb6);clear hb6;go_wp2_with fail
   refine Y9w _ (fun _=>?_) (fun e=>by cases e);go_wp2;exact⟨rfl,Yh.out _ HX.out Re.out.low⟩
  intro ps rs h A6 n6 c6 w6 hn6 hr6 hb6;have Re:=bx (Wt.out.below hb6);have Sp:=bx (H5.out.below hb6 H5.out.lt);have Kn:=bx hr6;have Mo:=bx hn6;have We:Bx (ps.length≤2000000):=bx (Z08 (X2k h) Xy.out.2);have Rb:Bx (R=gdK (memberB nm true) (gdK (!(decide (ac &&& 1024≠0))||bitsK ac 1029) (gdK (nmC b ac nm ds rs) ((namK x.p.pool cdN m.p.attrs).bind (mthR x.p.pool ac nm ds ps))))):=bx (by rw[To.out,h];rfl);clear Wt H5 To hn6 hr6 hb6 h c0 c1 c2 hg5;have c0:w6.cell? ⟨g5,0,none⟩=some (.int .i64 (ac:Int)):=(Sp.out.cell 0).trans rfl;have c1:w6.cell? ⟨g5,1,none⟩=some (.string ⟨nm.toArray⟩):=(Sp.out.cell 1).trans rfl;have c2:w6.cell? ⟨g5,2,none⟩=some (.string ⟨ds.toArray⟩):=(Sp.out.cell 2).trans rfl;have hg5:=Sp.out.lt;go_wp2_with fail
  refine Y7m nm true Xy.out.1 ?_;obtain⟨q1,hq1⟩:∃q1,memberB nm true=q1:=⟨_,rfl⟩;rw[hq1]at Rb ⊢;clear hq1;cases q1 with
  | false=>
   have HX:Bx (R=none):=bx Rb.out;go_wp2_with fail
   refine Y9w _ (fun _=>?_) (fun e=>by cases e);go_wp2;exact⟨rfl,Yh.out _ HX.out Re.out.low⟩
  | true=>
  go_wp2_with fail
  refine Y9w _ (fun e=>by cases e) (fun _=>?_);obtain⟨ka,hka⟩:∃ka,ac &&& 1024=ka:=⟨_,rfl⟩;obtain⟨ks,hks⟩:∃ks,ac &&& 8=ks:=⟨_,rfl⟩;have ha1:bits .and .i64 (ac:Int) 1024=(ka:Int):=by rw[←hka];exact Y6w ac 1024 hac2 (by decide)
  have ha2:bits .and .i64 (ac:Int) 8=(ks:Int):=by rw[←hks];exact Y6w ac 8 hac2 (by decide)
  obtain⟨abs,habs⟩:∃abs,decide (ac &&& 1024≠0)=abs:=⟨_,rfl⟩;obtain⟨sta,hsta⟩:∃sta,decide (ac &&& 8≠0)=sta:=⟨_,rfl⟩;have ha3:((ka:Int) != 0)=abs:=by rw[←habs,hka];by_cases h:ka=0 <;> simp [h]
  have ha4:((ks:Int) != 0)=sta:=by rw[←hsta,hks];by_cases h:ks=0 <;> simp [h]
  rw[habs]at Rb;have Fs:=bx habs;have Bf:=bx hsta;clear hka hks habs hsta;go_upto_region 5 with(fail)
  go_quiet (fail)
  rename Nat=>nq
  have Ta:=bx (Re.out.below (below_drewN (Below.refl _ w6) nq));have Pk:=bx (Sp.out.drewN nq);have Fr:Bx (RL strV (w6.drewN nq) (w6.drewN nq).heap.size A6 ps):=bx (Kn.out.drewN nq);go_upto_region 6 with(fail)
  clear c0 c1 c2 hg5 Re Sp Kn ha1 ha2 ha3 ha4;generalize w6.drewN nq=w7 at Ta Pk Fr ⊢;have c0:w7.cell? ⟨g5,0,none⟩=some (.int .i64 (ac:Int)):=(Pk.out.cell 0).trans rfl;have c1:w7.cell? ⟨g5,1,none⟩=some (.string ⟨nm.toArray⟩):=(Pk.out.cell 1).trans rfl;have c2:w7.cell? ⟨g5,2,none⟩=some (.string ⟨ds.toArray⟩):=(Pk.out.cell 2).trans rfl;have hg5:=Pk.out.lt
  go_cut [58] from 52 to 59 (fun _ wx=>wx=w7∧Bx ((!abs||bitsK ac 1029)=true))
  case first=>
   cases abs with
   | false=>
    go_wp2_with fail
    refine Y9w _ (fun e=>by cases e) (fun _=>?_);go_wp2
    go_meet
    exact⟨rfl,bx (by first | trivial | rfl)⟩
   | true=>
    obtain⟨q2,hq2⟩:∃q2,bitsK ac 1029=q2:=⟨_,rfl⟩;have Yi:=bx (Y6o ac 1029 w7 hac2 (by decide));rw[hq2]at Yi Rb;have Xq:=bx hq2;clear hq2;go_wp2_with fail
    refine Yi.out.mono ?_;rintro e w8 ⟨rfl,hw⟩;obtain rfl:w7=w8:=hw.symm;cases q2 with
    | false=>
     have HX:Bx (R=none):=bx Rb.out;go_wp2_with fail
     refine Y9w _ (fun _=>?_) (fun e=>by cases e);go_wp2;exact⟨rfl,Yh.out _ HX.out Ta.out.low⟩
    | true=>
     go_wp2_with fail
     refine Y9w _ (fun e=>by cases e) (fun _=>?_);go_wp2
     go_meet
     exact⟨rfl,bx (by rw[Xq.out];rfl)⟩
  case rest=>
   obtain⟨rfl,Zl⟩:=hcut;have Sz:Bx (R=(gdK (nmC b ac nm ds rs) ((namK x.p.pool cdN m.p.attrs).bind (mthR x.p.pool ac nm ds ps)))):=bx (by rw[Rb.out,Zl.out];rfl);clear Rb Zl;have hvw:=HV.out.below Ta.out.low;have c10:wc.cell? ⟨gv,10,none⟩=some (.bool b):=(hvw.box.cell 10).trans rfl;have hgv:=hvw.lt;clear hvw;go_step
   go_upto_block 0 with(fail)
   go_cut [73] from 62 to 98 (fun _ wx=>wx=wc∧Bx (nmC b ac nm ds rs=true))
   case first=>
    have hstop:nmC b ac nm ds rs=false→KlP R (MthP w) w (.panicked brkC) wc:=fun h=>Yh.out _ (by rw[Sz.out,h];rfl) Ta.out.low;have Zw:=bx hstop;clear hstop Sz
    go_upto_if 73 with(fail)
    obtain⟨qc,hqc⟩:∃qc,(nm==[60,99,108,105,110,105,116,62])=qc:=⟨_,rfl⟩;rw[hqc];have Tr:Bx (qc=false→nm≠clinitL):=bx (fun e=>by rw[e]at hqc;intro e2;rw[e2]at hqc;cases hqc);have Tq:Bx (qc=true→nm=clinitL):=bx (fun e=>by rw[e]at hqc;exact eq_of_beq hqc);clear hqc;cases qc with
    | true=>
     have Wi:Bx (nmC b ac nm ds rs=(sta&&decide (ds=[40,41,86]))):=bx (by unfold nmC;rw[if_pos (Tq.out rfl),Bf.out]);clear Tr Tq;cases sta with
     | false=>
      go_wp2_with fail
      refine Y9w _ (fun _=>?_) (fun e=>by cases e);go_wp2;exact⟨rfl,Zw.out Wi.out⟩
     | true=>
      go_wp2_with fail
      refine Y9w _ (fun e=>?_) (fun e=>?_)
      ·have HE:=bx (show nmC b ac nm ds rs=false by rw[Wi.out,Z25];exact Z48 (by simpa using e))
       clear e;go_wp2;exact⟨rfl,Zw.out HE.out⟩
      ·have HE:=bx (show nmC b ac nm ds rs=true by rw[Wi.out,Z25];exact Z47 (by simpa using e))
       clear e;go_wp2
       go_meet
       exact⟨rfl,HE⟩
    | false=>
    have Wa:=bx (Tr.out rfl);clear Tr Tq
    go_upto_if 82 with(fail)
    obtain⟨qi,hqi⟩:∃qi,(nm==[60,105,110,105,116,62])=qi:=⟨_,rfl⟩;rw[hqi];have Tr:Bx (qi=false→nm≠initL):=bx (fun e=>by rw[e]at hqi;intro e2;rw[e2]at hqi;cases hqi);have Tq:Bx (qi=true→nm=initL):=bx (fun e=>by rw[e]at hqi;exact eq_of_beq hqi);clear hqi;cases qi with
    | true=>
     have Wi:Bx (nmC b ac nm ds rs=(!b&&decide (rs=[86])&&bitsK ac 7)):=bx (by unfold nmC;rw[if_neg Wa.out,if_pos (Tq.out rfl)]);clear Tr Tq;obtain⟨qr,hqr⟩:∃qr,(rs==[86])=qr:=⟨_,rfl⟩;have F0:Bx (decide (rs=[86])=qr):=bx (by rw[←hqr];by_cases h:rs=[86] <;> simp [h]);rw[F0.out]at Wi;cases b with
     | true=>
      go_wp2_with fail
      refine Y9w _ (fun _=>?_) (fun e=>by cases e);go_wp2;exact⟨rfl,Zw.out Wi.out⟩
     | false=>
      obtain⟨q7,hq7⟩:∃q7,bitsK ac 7=q7:=⟨_,rfl⟩;have Ye:=bx (Y6o ac 7 wc hac2 (by decide));rw[hq7]at Ye Wi;clear hq7 F0;go_wp2_with fail
      case isTrue=>
       rename qr=true=>h
       have Tb:=bx h;clear h;refine Ye.out.mono ?_;rintro e w8 ⟨rfl,hw⟩;obtain rfl:wc=w8:=hw.symm;cases q7 with
       | false=>
        go_wp2_with fail
        refine Y9w _ (fun _=>?_) (fun e=>by cases e);go_wp2;exact⟨rfl,Zw.out (by rw[Wi.out,Tb.out];rfl)⟩
       | true=>
        go_wp2_with fail
        refine Y9w _ (fun e=>by cases e) (fun _=>?_);go_wp2
        go_meet
        exact⟨rfl,bx (by rw[Wi.out,Tb.out];rfl)⟩
      rename ¬qr=true=>h
      have Tb:Bx (qr=false):=bx (by simpa using h);clear h;refine Y9w _ (fun _=>?_) (fun e=>by cases e);go_wp2;exact⟨rfl,Zw.out (by rw[Wi.out,Tb.out];rfl)⟩
    | false=>
     have Wi:Bx (nmC b ac nm ds rs=(!b||decide ((ac:Int)=1025))):=bx (by unfold nmC;rw[if_neg Wa.out,if_neg (Tr.out rfl)]);clear Tr Tq;cases b with
     | false=>
      go_wp2_with fail
      refine Y9w _ (fun e=>by cases e) (fun _=>?_);go_wp2
      go_meet
      exact⟨rfl,bx Wi.out⟩
     | true=>
      go_wp2_with fail
      refine Y9w _ (fun e=>?_) (fun e=>?_)
      ·have HE:=bx (show nmC true ac nm ds rs=false by rw[Wi.out];simpa using e)
       clear e;go_wp2;exact⟨rfl,Zw.out HE.out⟩
      ·have HE:=bx (show nmC true ac nm ds rs=true by rw[Wi.out];simpa using e)
       clear e;go_wp2
       go_meet
       exact⟨rfl,HE⟩
   case rest=>
    obtain⟨hw,Yr⟩:=hcut;subst hw;have Qf:Bx (R=(namK x.p.pool cdN m.p.attrs).bind (mthR x.p.pool ac nm ds ps)):=bx (by rw[Sz.out,Yr.out];rfl);clear Sz Yr c0 c1 c2 c10 hgv hg5
    rename World=>wd
    have c3:wd.cell? ⟨g3,3,none⟩=some (.slice m.A m.n m.c):=(Ta.out.bk3.cell 3).trans rfl;have hg3:=Ta.out.bk3.lt;obtain⟨o,ho⟩:∃o,namK x.p.pool cdN m.p.attrs=o:=⟨_,rfl⟩;have Sr:=bx (Y4f x b gv w.heap.size m.A m.n m.c m.L cdN wd (HV.out.below Ta.out.low) (HM.out.2.2.2.below Ta.out.low (Z00 _)) Ta.out.low.size HM.out.1 hl);have ho2:namK x.p.pool cdN (m.L.map AtE.p)=o:=ho;rw[ho2]at Sr;rw[ho]at Qf;clear ho ho2;go_step;go_wp2_with fail
    refine Sr.out.mono ?_;intro e we hp;obtain⟨hp,hbe⟩:=hp;have My:=bx (Ta.out.below hbe);have Nt:=bx (Pk.out.below hbe Pk.out.lt);have Be:Bx (RL strV we we.heap.size A6 ps):=bx ((Fr.out.below hbe (Z00 _)).more hbe.size);clear hbe Sr Ta Pk Fr c3 hg3;cases o with
    | none=>have hp:e = .panicked brkC:=hp;subst hp;have HX:Bx (R=none):=bx (by rw[Qf.out];rfl);go_wp2;exact⟨rfl,Yh.out _ HX.out My.out.low⟩
    | some vs=>
    obtain⟨A9,n9,c9,qs,rfl,hO,hqs,hmem⟩:=hp;have HO:=bx hO;have E9:=bx hqs;have Qh:=bx hmem;have Kk:Bx (R=mthR x.p.pool ac nm ds ps vs):=Qf;have Ky:Bx (n9=vs.length):=bx (by rw[←hqs,Z17];exact hO.len);clear hO hqs hmem Qf;cases abs with
    | true=>
     have V6:=bx (Kk.out.trans (W5k Fs.out));go_wp2_with fail
     refine Y9w _ (fun e=>?_) (fun e=>?_)
     ·have HX:Bx (R=none):=bx (by
       rw[V6.out,Z48 (fun h=>by rw[h]at Ky;have:=Ky.out;simp at e;simp at this;omega)];rfl)
      clear e;go_wp2;exact⟨rfl,Yh.out _ HX.out My.out.low⟩
     have HX:Bx (R=some ⟨ac,nm,ds,false,0,0,[],[],[]⟩):=bx (by have h0:vs=[]:=List.length_eq_zero_iff.1 (by have:=Ky.out;simp at e;omega);rw[V6.out,Z47 h0];rfl);clear e;have Yj:=bx My.out.bk4;have c0:we.cell? ⟨g5,0,none⟩=some (.int .i64 (ac:Int)):=(Nt.out.cell 0).trans rfl;have c1:we.cell? ⟨g5,1,none⟩=some (strQ nm):=(Nt.out.cell 1).trans rfl;have c2:we.cell? ⟨g5,2,none⟩=some (strQ ds):=(Nt.out.cell 2).trans rfl;have c3:we.cell? ⟨g5,3,none⟩=some (.bool false):=(Nt.out.cell 3).trans rfl;have c4:we.cell? ⟨g5,4,none⟩=some (.int .i64 0):=(Nt.out.cell 4).trans rfl;have c5:we.cell? ⟨g5,5,none⟩=some (.int .i64 0):=(Nt.out.cell 5).trans rfl;have c6:we.cell? ⟨g5,6,none⟩=some (.slice none 0 0):=(Nt.out.cell 6).trans rfl;have c7:we.cell? ⟨g5,7,none⟩=some (.slice none 0 0):=(Nt.out.cell 7).trans rfl;have c8:we.cell? ⟨g5,8,none⟩=some (.slice none 0 0):=(Nt.out.cell 8).trans rfl;go_wp2_with (refine wpList_store_row rfl 51 (.tmp 4) (.tmp 108) rfl g4 (mtA ac nm ds false 0 0 (.slice none 0 0) (.slice none 0 0) (.slice none 0 0)) rfl rfl 51 z9 Yj.out Y6h rfl (Y2j _ _ _ _ _ _ _ _ _ _ _ _ _ _ _) ?_)
     simp only[Act.put];have hb4:=Yj.out.setRow (mtA ac nm ds false 0 0 (.slice none 0 0) (.slice none 0 0) (.slice none 0 0));unfold mtA at hb4 ⊢;have d0:=hb4.cell 0;have d1:=hb4.cell 1;have d2:=hb4.cell 2;have d3:=hb4.cell 3;have d4:=hb4.cell 4;have d5:=hb4.cell 5;have d6:=hb4.cell 6;have d7:=hb4.cell 7;have d8:=hb4.cell 8;simp only[Z19,List.getElem?_cons_zero,Z21]at d0 d1 d2 d3 d4 d5 d6 d7 d8;rw[HX.out];exact bodyPost_ret (v := .agg (mtA ac nm ds false 0 0 (.slice none 0 0) (.slice none 0 0) (.slice none 0 0))) (by simp [mtA,results,Tryd.results42,go_sem,d0,d1,d2,d3,d4,d5,d6,d7,d8]) rfl ⟨⟨⟨ac,nm,ds,false,0,0,⟨none,0,0,[]⟩,sq0,sq0⟩,rfl,⟨⟨rfl,Z00 _,(by show ((0:Nat):Int)≤_;omega),fun h=>absurd rfl h⟩,SqX.nil,SqX.nil,fun f hf=>by cases hf⟩,rfl⟩,My.out.low.trans ((Y9t we g4 _).below My.out.low.size (fun k hk e=>by have e:k=g4:=e;have:=My.out.od;omega))⟩
    | false=>
    go_wp2_with fail
    refine Y9w _ (fun e=>?_) (fun e=>?_)
    ·have HX:Bx (R=none):=bx (by rw[Kk.out];exact W5r Fs.out (by have:=Ky.out;simp at e;omega))
     clear e;go_wp2;exact⟨rfl,Yh.out _ HX.out My.out.low⟩
    have hn1:n9=1:=by simp at e;omega
    clear e
    obtain⟨p1,hp1⟩:∃p1,qs=[p1]:=by
     have h1:qs.length=1:=by rw[←HO.out.len];exact hn1
     exact List.length_eq_one_iff.1 h1
    obtain⟨a1,ha1,ha2⟩:=Qh.out p1 (by rw[hp1];simp);have hsl:SlB we w.heap.size p1:=by rw[←ha2];exact(HM.out.2.2.2.2 a1 ha1).below My.out.low (Z00 _)
    obtain⟨gq,cq,hq,_,hq2⟩:=HO.out.form (by rw[hp1];exact Nat.one_pos);injection hq with hq3 hq4 hq5
    subst hq3;have hcq:we.cell? ⟨gq,0,none⟩=some (.slice p1.A p1.n p1.c):=HO.out.cell slCels (k:=0) (j:=0) (x:=p1) (by rw[hp1];rfl) rfl;have Fq:Bx (R=(codK x.p.pool ((if sta=true then 0 else 1)+(ps.map slotsN).sum) p1.l).map fun k=>⟨ac,nm,ds,true,k.stack,k.locals,k.code,k.handlers,k.frames⟩):=bx (by rw[Kk.out,show vs=[p1.l] by rw[←E9.out,hp1];rfl];exact W5w Fs.out Bf.out);have HDN:Bx ((p1.n:Int)≤140737488355328):=bx (by rw[←ha2];exact HDD.out a1 ha1);have Vy:=bx hsl;have hi0:(0:Int)<(n9:Int):=(by omega);clear hp1 ha1 ha2 hq4 hq5 hsl HO E9 Qh hn1 Ky Kk
    go_upto_if 114 with(fail)
    obtain⟨bs,hbs⟩:∃bs:Nat,(if sta=true then 0 else 1)=bs:=⟨_,rfl⟩
    go_cut [12] from 113 to 114 (fun v wx=>wx=we∧v = .int .i64 (bs:Int))
    case first=>
     cases sta with
     | true=>
      have Mx:Bx (bs=0):=bx hbs.symm;clear hbs;go_wp2_with fail
      go_meet
      exact⟨rfl,by rw[Mx.out];rfl⟩
     | false=>
      have Mx:Bx (bs=1):=bx hbs.symm;clear hbs;go_wp2_with fail
      go_meet
      exact⟨rfl,by rw[Mx.out];rfl⟩
    case rest=>
     obtain⟨hw,rfl⟩:=hcut;subst hw
     rename World=>wf
     have Mx:Bx ((if sta=true then (0:Int) else 1)=(bs:Int)∧bs≤1):=bx (by rw[←hbs];cases sta <;> exact⟨rfl,by decide⟩);clear hbs;go_step;go_wp2_with fail
     go_loopw [12,117] (fun lv iv wx=>∃i:Nat,i≤n6∧iv = .int .i64 (i:Int)∧wx=wf∧lv = .int .i64 ((bs:Int)+((ps.take i).map slotsN).sum)) (fun _ iv _=>n6-(intOf iv).toNat)
     case atStart=>exact⟨0,by omega,rfl,rfl,by simp⟩
     case round=>
      obtain⟨i,hi,rfl,hw,rfl⟩:=hrel;subst hw;by_cases hin:i<n6
      ·have hiI:(i:Int)<(n6:Int):=by omega
       obtain⟨ad,p,rfl,hab,hpx,hpc⟩:=RL.atl Be.out (k:=i) (by rw[Mo.out];exact hin);unfold strV at hpc;have Jb:=bx hpx.out;obtain⟨sm,hsm⟩:∃sm,((ps.take i).map slotsN).sum=sm:=⟨_,rfl⟩;have hs2:=W6p ps i;rw[hsm]at hs2 ⊢;have hs3:=Y7d p;obtain⟨sl,hsl2⟩:∃sl,slotsN p=sl:=⟨_,rfl⟩;have Bd:=bx hsl2;have Pg:=bx hsm;rw[hsl2]at hs3;have hi6:i≤2000000:=by have:=We.out;have:=Mo.out;omega
       have hb1:=Mx.out.2;clear hsm hsl2 hpx;go_wp2_with fail
       refine X3l p ?_;rw[Bd.out];go_wp2_with fail
       go_roundw
       case rel=>exact⟨i+1,by omega,by go_num,by first | trivial | rfl,by rw[X8u ps i p Jb.out,Pg.out,Bd.out];first | (congr 1;omega) | (simp;omega)⟩
       case measure=>simp [intOf];omega
      ·have hiI:¬(i:Int)<(n6:Int):=by omega
       have hps:ps.take i=ps:=Z15 (by rw[Mo.out];omega);rw[hps];obtain⟨lst,hlst⟩:∃lst,(bs:Int)+(ps.map slotsN).sum=lst:=⟨_,rfl⟩;rw[hlst];rw[Mx.out.1,hlst]at Fq;clear hps hlst;go_wp2_with fail
       refine(Y2l p1.A p1.n p1.c p1.l gv x b wr (HV.out.below My.out.low) Vy.out.1 HDN.out (Vy.out.2.2.2.more My.out.low.size)).mono ?_
       rintro e wg ⟨gk,gr,rfl,hgr,hk,hbg⟩;have HK:=bx hk;have St:=bx (My.out.below hbg);have Ga:=bx (Nt.out.below hbg Nt.out.lt);have Vn:Bx (wr.heap.size≤gr∧g5<wr.heap.size):=bx ⟨hgr,Nt.out.lt⟩;clear hk hgr hbg My Nt Be Vy hcq;have hgv5:gv<g5:=by have h1:=HGW.out;have h2:=St.out.od;have h3:=Yq.out;omega
       have Cq:=bx (X6w lst ac nm ds g5 gk gr gv wr.heap.size p1.l x b wg HK.out Ga.out ⟨hgv5,Vn.out.2⟩);obtain⟨o,ho⟩:∃o,codR x.p.pool lst p1.l 0=o:=⟨_,rfl⟩;rw[ho]at Cq;rw[W6j,ho]at Fq;clear ho hgv5;go_wp2_with fail
       refine Cq.out.mono ?_;intro e wh hp;obtain⟨hp,hch⟩:=hp;have Nv:=bx hch;clear hch Cq;cases o with
       | none=>have hp:e = .panicked brkC:=hp;subst hp;have HX:Bx (R=none):=bx (by rw[Fq.out];rfl);go_wp2;exact⟨rfl,Yh.out _ HX.out (St.out.low.trans (Nv.out.below St.out.low.size (fun k hk e=>by have h1:=Vn.out;have h2:=St.out.od;have h3:=Yq.out;omega)))⟩
       | some c0=>
       obtain⟨c,pz⟩:=c0;obtain⟨rfl,y,hy,hmx,hbk⟩:=hp;have HX:Bx (R=some ⟨ac,nm,ds,true,c.stack,c.locals,c.code,c.handlers,c.frames⟩):=bx (by rw[Fq.out];rfl);have HY:=bx hy;have E8:Bx (Below w.heap.size w wh):=bx (St.out.low.trans (Nv.out.below St.out.low.size (fun k hk e=>by have h1:=Vn.out;have h2:=St.out.od;have h3:=Yq.out;have h4:=St.out.low.size;omega)));have Xc:=bx hmx;have P9:Bx (w.heap.size≤g4∧g4<wg.heap.size∧w.heap.size≤wg.heap.size):=bx (by have h1:=St.out.od;have h2:=St.out.bk4.lt;have h3:=St.out.low.size;omega);have Yj:=bx (St.out.bk4.ch Nv.out (fun e=>by have h1:=Vn.out;have h3:=Yq.out;omega));have Za:=bx hbk;obtain⟨cA,cn,cc,hcv⟩:∃A n c,slV y.code = .slice A n c:=⟨_,_,_,rfl⟩;obtain⟨hA,hn,hc,hhv⟩:∃A n c,y.hs.v = .slice A n c:=⟨_,_,_,rfl⟩;obtain⟨fA,fn,fc,hfv⟩:∃A n c,y.fs.v = .slice A n c:=⟨_,_,_,rfl⟩;rw[hcv,hhv,hfv]at Za;have U4:Bx (mtA y.access y.name y.desc y.there y.stack y.locals (slV y.code) y.hs.v y.fs.v=mtA ac nm ds true y.stack y.locals (.slice cA cn cc) (.slice hA hn hc) (.slice fA fn fc)):=bx (by have h1:=congrArg Mth.access hy;have h2:=congrArg Mth.name hy;have h3:=congrArg Mth.desc hy;have h4:=congrArg Mth.there hy;have h1:y.access=(ac:Int):=h1;have h2:y.name=nm:=h2;have h3:y.desc=ds:=h3;have h4:y.there=true:=h4;rw[h1,h2,h3,h4,hcv,hhv,hfv]);obtain⟨sy,hsy⟩:∃sy,y.stack=sy:=⟨_,rfl⟩;obtain⟨ly,hly⟩:∃ly,y.locals=ly:=⟨_,rfl⟩;rw[hsy,hly]at Za;have HSY:=bx hsy;have HLY:=bx hly;clear hy hmx hbk hcv hhv hfv hsy hly St Ga HK Fq;have d0:wh.cell? ⟨g5,0,none⟩=some (.int .i64 (ac:Int)):=(Za.out.cell 0).trans rfl;have d1:wh.cell? ⟨g5,1,none⟩=some (strQ nm):=(Za.out.cell 1).trans rfl;have d2:wh.cell? ⟨g5,2,none⟩=some (strQ ds):=(Za.out.cell 2).trans rfl;have d3:wh.cell? ⟨g5,3,none⟩=some (.bool true):=(Za.out.cell 3).trans rfl;have d4:wh.cell? ⟨g5,4,none⟩=some (.int .i64 sy):=(Za.out.cell 4).trans rfl;have d5:wh.cell? ⟨g5,5,none⟩=some (.int .i64 ly):=(Za.out.cell 5).trans rfl;have d6:wh.cell? ⟨g5,6,none⟩=some (.slice cA cn cc):=(Za.out.cell 6).trans rfl;have d7:wh.cell? ⟨g5,7,none⟩=some (.slice hA hn hc):=(Za.out.cell 7).trans rfl;have d8:wh.cell? ⟨g5,8,none⟩=some (.slice fA fn fc):=(Za.out.cell 8).trans rfl;go_wp2_with (refine wpList_store_row rfl 51 (.tmp 4) (.tmp 133) rfl g4 (mtA ac nm ds true sy ly (.slice cA cn cc) (.slice hA hn hc) (.slice fA fn fc)) rfl rfl 51 z9 Yj.out Y6h rfl (Y2j _ _ _ _ _ _ _ _ _ _ _ _ _ _ _) ?_)
       simp only[Act.put];have hb4:=Yj.out.setRow (mtA ac nm ds true sy ly (.slice cA cn cc) (.slice hA hn hc) (.slice fA fn fc));unfold mtA at hb4 ⊢;have d0:=hb4.cell 0;have d1:=hb4.cell 1;have d2:=hb4.cell 2;have d3:=hb4.cell 3;have d4:=hb4.cell 4;have d5:=hb4.cell 5;have d6:=hb4.cell 6;have d7:=hb4.cell 7;have d8:=hb4.cell 8;simp only[Z19,List.getElem?_cons_zero,Z21]at d0 d1 d2 d3 d4 d5 d6 d7 d8;rw[HX.out];exact bodyPost_ret (v := .agg (mtA ac nm ds true sy ly (.slice cA cn cc) (.slice hA hn hc) (.slice fA fn fc))) (by simp [mtA,results,Tryd.results42,go_sem,d0,d1,d2,d3,d4,d5,d6,d7,d8]) rfl ⟨⟨y,HY.out,Xc.out.step (fun k hk=>(Y9t wh g4 _).same k hk.2 (fun e=>by have e:k=g4:=e;have:=P9.out;have:=hk.1;omega)) (fun k hk=>⟨Z08 P9.out.2.2 hk.1,Z07 hk.2 (Y9t wh g4 _).size⟩),by rw[U4.out,HSY.out,HLY.out]⟩,E8.out.trans ((Y9t wh g4 _).below E8.out.size (fun k hk e=>by have e:k=g4:=e;have:=P9.out;omega))⟩
end Go.Proofs.YtpmfiegfbmamiaaDoor
