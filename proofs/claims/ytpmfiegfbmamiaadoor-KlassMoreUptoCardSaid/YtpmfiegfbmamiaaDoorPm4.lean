/- Contract: (image.pool).holds. -/
import Derived.Test.YtpmfiegfbmamiaaDoorPm3
namespace Go.Proofs.YtpmfiegfbmamiaaDoor
set_option maxRecDepth 100000
set_option maxHeartbeats 8000000
open Go.RowKit
theorem X4z {x:Cst} (h0:x.tag=0) (h1:x.a=0) (h2:x.b=0) (h3:x.num=0) (h4:x.text=[]):x=cst0:=by obtain⟨t,a,b,n,s⟩:=x;simp at h0 h1 h2 h3 h4;subst h0 h1 h2 h3 h4;rfl
theorem Y2b {pool:List Cst} {x:Cst} (h:pool[0]? = some x) (hx:x≠cst0):rightsP pool=false:=by
 cases hr:rightsP pool with
 | false=>rfl
 | true=>
  exfalso
  have:=X8s hr h
  unfold rightP at this;by_cases h0:x.tag=0
  ·rw[if_pos h0]at this;simp at this;exact hx this
  ·rw[if_neg h0]at this;simp at this
theorem X4c (k:Int) (p q:Int) (h:wantA k=some (p,q)):(needG k).getD (.agg #[.int .i64 0,.int .i64 0]) = .agg #[.int .i64 p,.int .i64 q]∧(needG k).isSome=true:=by unfold needG;rw[h];exact⟨rfl,rfl⟩
theorem X6f (k:Int) (h:wantA k=none):(needG k).getD (.agg #[.int .i64 0,.int .i64 0]) = .agg #[.int .i64 0,.int .i64 0]∧(needG k).isSome=false:=by unfold needG;rw[h];exact⟨rfl,rfl⟩
theorem Y4q (w:World):(zeroValue 123).run Tryd.prog w = .ok (.agg #[.int .i64 0,.int .i64 0]) w:=by kernel_rfl
theorem W7q {k p q:Int} (h:wantA k=some (p,q)):(0≤p∧p≤12)∧(0≤q∧q≤12):=by
 unfold wantA at h;by_cases h1:k=1∨k=3∨k=5
 ·rw[if_pos h1]at h;simp at h;omega
 rw[if_neg h1]at h;by_cases h2:k=7∨k=8
 ·rw[if_pos h2]at h;simp at h;omega
 rw[if_neg h2]at h;by_cases h3:k=9∨k=10∨k=11
 ·rw[if_pos h3]at h;simp at h;omega
 rw[if_neg h3]at h;by_cases h4:k=12
 ·rw[if_pos h4]at h;simp at h;omega
 rw[if_neg h4]at h;cases h
def HoldR (L:List Cst) (k:Nat):Prop:=1≤k∧(RestOk L 1↔RestOk L k)∧(L[k-1]?).map (·.tag)≠some 5
theorem W4h {x:Cst} (h1:x.tag=1) (h:x.num=0):restC x=true:=by unfold restC;rw[h1,h];rfl
theorem X4r {x:Cst} (h1:x.tag=1) (h:x.num≠0):restC x=false:=by unfold restC;rw[h1,Z48 h];rfl
theorem X5b {x:Cst} (h1:x.tag≠1) (h:x.text≠[]):restC x=false:=by unfold restC;rw[Z48 h1,Z48 h];rfl
theorem X5e {x:Cst} (h:x.text=[]) (h1:x.tag=3∨x.tag=5):restC x=true:=by unfold restC;rw[h];rcases h1 with e | e <;> rw[e] <;> simp
theorem X1s {x:Cst} (h:x.text=[]) (h1:x.num=0):restC x=true:=by unfold restC;rw[h,h1];simp
theorem Y0k {x:Cst} (h3:x.tag≠3) (h5:x.tag≠5) (h1:x.num≠0):restC x=false:=by unfold restC;rw[Z48 h3,Z48 h5,Z48 h1];simp
theorem W4u {x:Cst} (h:x.tag=1):lastC x=(uOk x.text&&decide (x.text.length≤65535)):=by unfold lastC;rw[if_pos h]
theorem W6d {x:Cst} (h:x.tag=3):lastC x=decide (-2147483648≤x.num∧x.num≤2147483647):=by unfold lastC;rw[if_neg (by omega),if_pos h]
theorem W9j {x:Cst} (h1:x.tag≠1) (h3:x.tag≠3):lastC x=true:=by unfold lastC;rw[if_neg h1,if_neg h3]
theorem W7k {l:List UInt8} (h:uOk l=true):(unitsV l).2=0:=by unfold uOk at h;cases hu:unitsB l with | none=>rw[hu]at h;cases h | some us=>rw[Y6c hu]
theorem W6u {l:List UInt8} (h:uOk l=false):(unitsV l).2=23:=by unfold uOk at h;cases hu:unitsB l with | none=>rw[Y5m hu] | some us=>rw[hu]at h;cases h
theorem Y3d {L:List Cst} {k:Nat} {x:Cst} (h:HoldR L k) (hx:L[k]? = some x) (hg:cGood L x=true) (h5:x.tag≠5):HoldR L (k+1):=by
 obtain⟨a,b⟩:=X0f h.1 hx hg h5;exact⟨by omega,h.2.1.trans a,b⟩
theorem X3r {L:List Cst} {k:Nat} {x:Cst} (h:HoldR L k) (hx:L[k]? = some x) (hg:cGood L x=true) (h5:x.tag=5) (hz:L[k+1]? = some cst0):HoldR L (k+2):=by
 obtain⟨a,b⟩:=X5o h.1 hx hg h5 hz;exact⟨by omega,h.2.1.trans a,b⟩
theorem W4m {v:Int} (h : -2147483648≤v∧v≤2147483647):wrap64 (wrap32 v)=v:=by unfold wrap64 wrap32;omega
theorem W8o {v:Int} (h:¬(-2147483648≤v∧v≤2147483647)):wrap64 (wrap32 v)≠v:=by unfold wrap64 wrap32;omega
def okTo (L:List Cst) (p q a b:Int) (j:Nat):Prop:=(1≤j→atOk L p a=true)∧(2≤j→atOk L q b=true)
def poolOk (L:List Cst):Bool:=decide (1≤L.length∧L.length≤1024)&&rightsP L
theorem Y7z (A:Option Addr) (n c:Nat) (L:List Cst) (w:World) (hn:L.length=n) (hb:(n:Int)≤9223372036854775807) (hr:RS cstC w w.heap.size A L) (hT:∀x∈L,(-9223372036854775808≤x.tag∧x.tag≤9223372036854775807)∧x.text.length≤2000000) :
  Calls Tryd.prog 33 #[.slice A n c] w fun e w'=>e = .returned (.bool (poolOk L))∧Below w.heap.size w w':=by
 have HL:=bx hn;have HR:=bx hr;have HT:=bx hT;obtain⟨R,hR⟩:∃R,poolOk L=R:=⟨_,rfl⟩;rw[hR];have Zi:=bx hR;clear hn hr hT hR;by_cases h1:n<1
 ·have h1I:(n:Int)<1:=by omega
  have HN:Bx (R=false):=bx (by rw[←Zi.out];unfold poolOk;rw[Z48 (by rw[HL.out];omega)];rfl);clear h1
  go_enter Tryd.func33,Tryd.ntmps33
  go_wp2;go_ret;exact⟨by rw[HN.out];rfl,Below.refl _ _⟩
 have h1I:¬(n:Int)<1:=(by omega);by_cases h2:1024<n
 ·have h2I:(1024:Int)<(n:Int):=by omega
  have HN:Bx (R=false):=bx (by rw[←Zi.out];unfold poolOk;rw[Z48 (by rw[HL.out];omega)];rfl);clear h1 h2
  go_enter Tryd.func33,Tryd.ntmps33
  go_wp2;go_ret;exact⟨by rw[HN.out];rfl,Below.refl _ _⟩
 have h2I:¬(1024:Int)<(n:Int):=(by omega);obtain⟨ad,x,rfl,_,HX,p0,p1,p2,p3,p4⟩:=Y4c HR.out (k:=0) (by rw[HL.out];omega);rw[Nat.zero_mul]at p0 p1 p2 p3 p4;have ha0:ad.add 0=ad:=(by simp [Addr.add]);rw[ha0]at p0 p1 p2 p3 p4;have h0n:(0:Int)<(n:Int):=(by omega);by_cases hx0:¬x=cst0
 ·have HN:Bx (R=false):=bx (by rw[←Zi.out];unfold poolOk;rw[Y2b HX.out hx0,Bool.and_false])
  have Wy:=bx hx0;clear hx0
  go_enter Tryd.func33,Tryd.ntmps33
  go_wp2_with fail
  all_goals first
   | (go_ret;exact⟨by rw[HN.out];rfl,Below.refl _ _⟩)
   | (exfalso;refine Wy.out (X4z ?_ ?_ ?_ ?_ ?_) <;> assumption)
 have hx0:x=cst0:=Decidable.not_not.1 hx0;have Li:Bx (L[0]? = some cst0):=bx (by rw[HX.out,hx0])
 have Mr:Bx ((RestOk L 1→R=true)∧(¬RestOk L 1→R=false)):=bx (by
  have e1:R=rightsP L:=by rw[←Zi.out];unfold poolOk;rw[Z47 (by rw[HL.out];omega),Z25]
  refine⟨fun h=>?_,fun h=>?_⟩
  ·rw[e1];exact Y4a.2 ((Y3y Li.out).2 h)
  ·rw[e1]
   cases hr:rightsP L with
   | false=>rfl
   | true=>exact absurd ((Y3y Li.out).1 (Y4a.1 hr)) h)
 have Ps:Bx (HoldR L 1):=bx ⟨by omega,Iff.rfl,by rw[Li.out];decide⟩;subst hx0
 replace p0:w.cell? ad=some (.int .i64 0):=p0
 replace p1:w.cell? ⟨ad.block,ad.off+1,none⟩=some (.int .i64 0):=p1
 replace p2:w.cell? ⟨ad.block,ad.off+2,none⟩=some (.int .i64 0):=p2
 replace p3:w.cell? ⟨ad.block,ad.off+3,none⟩=some (.int .i64 0):=p3
 replace p4:w.cell? ⟨ad.block,ad.off+4,none⟩=some (.string ⟨#[]⟩):=p4
 go_enter Tryd.func33,Tryd.ntmps33
 go_wp2_with fail
 refine(X2p _).mono ?_
 rintro e w1 ⟨g,rfl,hg,hM,hb1⟩;have HM:=bx hM;have Zl:=bx hb1;clear hM hb1 p0 p1 p2 p3 p4 HX Li ha0;clear hx0;go_wp2
 go_loopw [4] (fun iv wx=>∃k:Nat,k≤n∧iv = .int .i64 (k:Int)∧Bx (HoldR L k)∧Bx (Below w1.heap.size w1 wx)) (fun i _=>n-(intOf i).toNat)
 case atStart=>exact⟨1,by omega,rfl,Ps,bx (Below.refl _ _)⟩
 case round=>
  clear Ps;obtain⟨k,hk,rfl,HK,HB⟩:=hrel;have Yu:Bx (Below w.heap.size w wr):=bx (Zl.out.trans (HB.out.mono Zl.out.size));by_cases hkn:k<n
  ·have hkI:(k:Int)<(n:Int):=by omega
   obtain⟨ad2,x,he,hlt,HX,p0,p1,p2,p3,p4⟩:=Y4c (HR.out.below Yu.out (Z00 _)) (k:=k) (by rw[HL.out];exact hkn);injection he with he
   subst he;have hkJ:(0:Int)≤(k:Int):=(by omega);have hkK:(k:Int).toNat=k:=(by omega);have G7:=bx (HT.out x (Z16 HX.out));have htb:=G7.out.1;have Ng:Bx (MapT niV wr Tryd.prog 3 g 9 needG):=bx (HM.out.below HB.out HM.out.lt);obtain⟨C,hC⟩:∃C,wr.heap.size=C:=⟨_,rfl⟩;have Vm:=bx (Bk.newAt wr 39 #[.int .i64 x.tag,.int .i64 x.a,.int .i64 x.b,.int .i64 x.num,.string ⟨x.text.toArray⟩] hC);have hbc:=Y9z HB.out (Z00 _) (.cells #[.int .i64 x.tag,.int .i64 x.a,.int .i64 x.b,.int .i64 x.num,.string ⟨x.text.toArray⟩] 39);have Xj:=bx hbc;have Sb:=bx (Ng.out.alloc (.cells #[.int .i64 x.tag,.int .i64 x.a,.int .i64 x.b,.int .i64 x.num,.string ⟨x.text.toArray⟩] 39));have HCZ:Bx (w1.heap.size≤C):=bx (by rw[←hC];exact HB.out.size);have hcs:(wr.alloc (.cells #[.int .i64 x.tag,.int .i64 x.a,.int .i64 x.b,.int .i64 x.num,.string ⟨x.text.toArray⟩] 39)).heap.size=C+1:=by rw[←hC];simp
   have HC:=bx hC;clear hbc hC;go_upto_region 8 with(fail)
   rw[HC.out];generalize wr.alloc (.cells #[.int .i64 x.tag,.int .i64 x.a,.int .i64 x.b,.int .i64 x.num,.string ⟨x.text.toArray⟩] 39)=wc at Vm Xj Sb hcs ⊢;have Yt:=bx hcs;clear hcs Ng p0 p1 p2 p3 p4 HC;have c0:wc.cell? ⟨C,0,none⟩=some (.int .i64 x.tag):=(Vm.out.cell 0).trans rfl;have Sw:=bx (niKey x.tag htb);cases hwa:wantA x.tag with
   | none=>
    obtain⟨e1,e2⟩:=X6f x.tag hwa;have HN:Bx (R=false):=bx (Mr.out.2 (fun h=>X9m HK.out.1 HK.out.2.2 HX.out (X4h hwa) (HK.out.2.1.1 h)));have Pr:=bx e1;have W0:=bx e2;clear e1 e2 hwa;go_wp2_with (at_lookup;refine Y8y rfl (.tmp 39) (.tmp 41) _ rfl 123 intK Tryd.underlying120 (.agg #[.int .i64 0,.int .i64 0]) (Y4q _) rfl Sb.out x.tag _ rfl Sw.out _ _ Pr.out W0.out ?_)
    go_ret;exact⟨by rw[HN.out];rfl,Zl.out.trans ((Y9z Xj.out (Z00 _) _).mono Zl.out.size)⟩
   | some pq=>
    obtain⟨p,q⟩:=pq;obtain⟨e1,e2⟩:=X4c x.tag p q hwa;have Pr:=bx e1;have W0:=bx e2;have S3:=bx hwa;clear e1 e2 hwa;go_upto_region 11 with(at_lookup;refine Y8y rfl (.tmp 39) (.tmp 41) _ rfl 123 intK Tryd.underlying120 (.agg #[.int .i64 0,.int .i64 0]) (Y4q _) rfl Sb.out x.tag _ rfl Sw.out _ _ Pr.out W0.out ?_)
    have Sk:=bx (Bk.newAt wc 123 #[.int .i64 p,.int .i64 q] Yt.out);have Pd:=bx (Vm.out.alloc (.cells #[.int .i64 p,.int .i64 q] 123));have S2:=bx (Y9z Xj.out (Z00 _) (.cells #[.int .i64 p,.int .i64 q] 123));have Rh:Bx ((wc.alloc (.cells #[.int .i64 p,.int .i64 q] 123)).heap.size=C+2):=bx (by rw[World.size_alloc,Yt.out]);rw[Yt.out];generalize wc.alloc (.cells #[.int .i64 p,.int .i64 q] 123)=wd at Sk Pd S2 Rh ⊢;clear c0 Vm Xj Sb Yt;have c0:wd.cell? ⟨C,0,none⟩=some (.int .i64 x.tag):=(Pd.out.cell 0).trans rfl;have c1:wd.cell? ⟨C,1,none⟩=some (.int .i64 x.a):=(Pd.out.cell 1).trans rfl;have c2:wd.cell? ⟨C,2,none⟩=some (.int .i64 x.b):=(Pd.out.cell 2).trans rfl;go_upto_region 12 with(fail)
    have Mq:=bx (Bk.newAt wd 3 #[.int .i64 x.a,.int .i64 x.b] Rh.out);have Gj:=bx (Sk.out.alloc (.cells #[.int .i64 x.a,.int .i64 x.b] 3));have Rg:=bx (Pd.out.alloc (.cells #[.int .i64 x.a,.int .i64 x.b] 3));have Jn:=bx (Y9z S2.out (Z00 _) (.cells #[.int .i64 x.a,.int .i64 x.b] 3));rw[Rh.out];generalize wd.alloc (.cells #[.int .i64 x.a,.int .i64 x.b] 3)=we at Mq Gj Rg Jn ⊢;clear c0 c1 c2 Sk Pd S2 Rh;have Sj:Bx (Below w.heap.size w we):=bx (Zl.out.trans (Jn.out.mono Zl.out.size));have Cb:Bx (RS cstC we we.heap.size (some ad) L):=bx (HR.out.step Sj.out);have Jm:Bx (cGood L x=((atOk L p x.a&&atOk L q x.b)&&(restC x&&lastC x))):=bx (X2z S3.out);have Xn:Bx (cGood L x=false→R=false):=bx (fun hg=>Mr.out.2 (fun h=>X9m HK.out.1 HK.out.2.2 HX.out hg (HK.out.2.1.1 h)));have G6:=bx (W7q S3.out);have G5:Bx (okTo L p q x.a x.b 0):=bx ⟨fun h=>absurd h (by omega),fun h=>absurd h (by omega)⟩;clear Pr W0 Sw S3 hlt
    go_loop [53] (fun jv=>∃j:Nat,j≤2∧jv = .int .i64 (j:Int)∧Bx (okTo L p q x.a x.b j)) (fun i=>2-(intOf i).toNat)
    case atStart=>exact⟨0,by omega,rfl,G5⟩
    case round=>
     clear G5;obtain⟨j,hj,rfl,HO⟩:=hrel;by_cases hj2:j<2
     ·have hjI:(j:Int)<2:=by omega
      have hj0:(0:Int)≤(j:Int):=(by omega);have hjn:(j:Int).toNat=j:=by omega
      obtain⟨av,wv,ca,cw,hwv,hno,hyes⟩:∃av wv,we.cell? ⟨C+2,j,none⟩=some (.int .i64 av)∧we.cell? ⟨C+1,j,none⟩=some (.int .i64 wv)∧(0≤wv∧wv≤12)∧(atOk L wv av=false→Bx (R=false))∧(atOk L wv av=true→Bx (okTo L p q x.a x.b (j+1))):=by
       rcases(show j=0∨j=1 by omega) with rfl | rfl
       ·refine⟨x.a,p,(Mq.out.cell 0).trans rfl,(Gj.out.cell 0).trans rfl,G6.out.1,fun h=>bx (Xn.out ?_),fun h=>bx ⟨fun _=>h,fun h2=>absurd h2 (by omega)⟩⟩
        rw[Jm.out,h];rfl
       ·refine⟨x.b,q,(Mq.out.cell 1).trans rfl,(Gj.out.cell 1).trans rfl,G6.out.2,fun h=>bx (Xn.out ?_),fun h=>bx ⟨fun _=>HO.out.1 (by omega),fun _=>h⟩⟩
        rw[Jm.out,h,Bool.and_false];rfl
      have B5:Bx (Below w.heap.size w we):=Sj;by_cases hw0:wv=0
      ·subst hw0
       clear hwv;by_cases ha0:av=0
       ·subst ha0
        have Si:=hyes (by unfold atOk;rw[if_pos rfl];rfl);clear hyes hno;go_wp2
        go_round
        case rel=>exact⟨j+1,by omega,by go_num,Si⟩
        case measure=>simp [intOf];omega
       ·have HN:=hno (by unfold atOk;rw[if_pos rfl];exact Z48 ha0)
        have ha1:(av != 0)=true:=by rw[bne_iff_ne];exact ha0
        clear hyes hno;go_wp2;go_ret;exact⟨by rw[HN.out];rfl,Sj.out⟩
      ·have hw1:(wv != 0)=true:=by rw[bne_iff_ne];exact hw0
       have hw2:(wv==0)=false:=by rw[beq_eq_false_iff_ne];exact hw0
       have hek:atOk L wv av=decide (tagP L av=wv):=by unfold atOk;rw[if_neg hw0]
       have hW0:=bx hw0;cases hq:decide (tagP L av=wv) with
       | true=>
        have Si:=hyes (hek.trans hq);have HQ:=bx hq;clear hyes hno hek hq hw0;go_wp2_with (go_at_call 34;refine(Y9g _ n _ L av wv we HL.out hb hW0.out Cb.out).mono ?_;rintro e w' ⟨rfl,rfl⟩;rw[HQ.out])
        go_round
        case rel=>exact⟨j+1,by omega,by go_num,Si⟩
        case measure=>simp [intOf];omega
       | false=>
        have HN:=hno (hek.trans hq);have HQ:=bx hq;clear hyes hno hek hq hw0;go_wp2_with (go_at_call 34;refine(Y9g _ n _ L av wv we HL.out hb hW0.out Cb.out).mono ?_;rintro e w' ⟨rfl,rfl⟩;rw[HQ.out])
        go_ret;exact⟨by rw[HN.out];rfl,Sj.out⟩
     ·obtain rfl:j=2:=by omega
      have Qk:=bx (show atOk L p x.a=true∧atOk L q x.b=true from⟨HO.out.1 (by omega),HO.out.2 (by omega)⟩);have Zc:Bx (cGood L x=(restC x&&lastC x)):=bx (by rw[Jm.out,Qk.out.1,Qk.out.2];rfl);have c0:we.cell? ⟨C,0,none⟩=some (.int .i64 x.tag):=(Rg.out.cell 0).trans rfl;have c3:we.cell? ⟨C,3,none⟩=some (.int .i64 x.num):=(Rg.out.cell 3).trans rfl;have c4:we.cell? ⟨C,4,none⟩=some (.string ⟨x.text.toArray⟩):=(Rg.out.cell 4).trans rfl;have hl2:¬(2:Int)<2:=(by omega);have Qr:Bx (∀{w5:World},Below we.heap.size we w5→w5.cell? ⟨C,4,none⟩=we.cell? ⟨C,4,none⟩):=bx (fun hb=>by rw[(Rg.out.below hb Rg.out.lt).cell 4,Rg.out.cell 4]);clear HO hj hj2 Jm Rg;by_cases t1:x.tag=1
      ·have t3:¬x.tag=3:=by omega
       have t5:¬x.tag=5:=(by omega);by_cases hnum:x.num=0
       ·have Rf:=bx (W4h t1 hnum)
        have Td:Bx (cGood L x=(uOk x.text&&decide (x.text.length≤65535))):=bx (by rw[Zc.out,Rf.out,W4u t1];rfl);have htl:=G7.out.2;have hsz:(⟨x.text.toArray⟩:ByteArray).size=x.text.length:=(by simp [ByteArray.size]);have hsl:(⟨x.text.toArray⟩:ByteArray).data.toList=x.text:=rfl;obtain⟨sn,hsn⟩:∃sn:ByteArray,sn=⟨x.text.toArray⟩:=⟨_,rfl⟩;rw[←hsn]at c4 hsz hsl;have Vu:=bx hsz;have Vy:=bx hsl;have hs2:sn.size≤2000000:=by rw[hsz];exact htl
        clear hsz hsl hsn htl;cases hu:uOk x.text with
        | false=>
         have HN:=bx (Xn.out (by rw[Td.out,hu];rfl));have HU:=bx (W6u hu);clear hu;go_wp2_with (go_at_call 55;refine(Y7a sn we hs2).mono ?_;rintro e w5 ⟨A5,n5,c5,rfl,-,-,hb5⟩;rw[Vy.out,HU.out];have Za:=bx hb5;clear hb5)
         go_ret;exact⟨by rw[HN.out];rfl,Sj.out.trans (Za.out.mono Sj.out.size)⟩
        | true=>
         have HU:=bx (W7k hu);by_cases hlen:x.text.length≤65535
         ·have Lh:Bx (cGood L x=true):=bx (by rw[Td.out,hu,Z47 hlen];rfl)
          have Zj:=bx (Y3d HK.out HX.out Lh.out t5);have hsI:¬(65535:Int)<(sn.size:Int):=by rw[Vu.out];omega
          clear hu;go_wp2_with (go_at_call 55;refine(Y7a sn we hs2).mono ?_;rintro e w5 ⟨A5,n5,c5,rfl,-,-,hb5⟩;rw[Vy.out,HU.out];have Za:=bx hb5;have c45:w5.cell? ⟨C,4,none⟩=some (.string sn):=(Qr.out hb5).trans c4;clear hb5)
          go_roundw
          case rel=>exact⟨k+1,by omega,by go_num,Zj,bx (Jn.out.trans (Za.out.mono Jn.out.size))⟩
          case measure=>simp [intOf];omega
         ·have HN:=bx (Xn.out (by rw[Td.out,Z48 hlen,Bool.and_false]))
          have hsI:(65535:Int)<(sn.size:Int):=by rw[Vu.out];omega
          clear hu;go_wp2_with (go_at_call 55;refine(Y7a sn we hs2).mono ?_;rintro e w5 ⟨A5,n5,c5,rfl,-,-,hb5⟩;rw[Vy.out,HU.out];have Za:=bx hb5;have c45:w5.cell? ⟨C,4,none⟩=some (.string sn):=(Qr.out hb5).trans c4;clear hb5)
          go_ret;exact⟨by rw[HN.out];rfl,Sj.out.trans (Za.out.mono Sj.out.size)⟩
       ·have HN:=bx (Xn.out (by rw[Zc.out,X4r t1 hnum];rfl))
        go_wp2;go_ret;exact⟨by rw[HN.out];rfl,Sj.out⟩
      ·by_cases htx:x.text=[]
       ·by_cases t3:x.tag=3
        ·have t5:¬x.tag=5:=by omega
         have Rf:=bx (X5e htx (Or.inl t3));have Td:Bx (cGood L x=decide (-2147483648≤x.num∧x.num≤2147483647)):=bx (by rw[Zc.out,Rf.out,W6d t3,Z25]);by_cases hr : -2147483648≤x.num∧x.num≤2147483647
         ·have Lh:Bx (cGood L x=true):=bx (by rw[Td.out,Z47 hr])
          have Zj:=bx (Y3d HK.out HX.out Lh.out t5);have G4:=bx hr;have hw:(wrap64 (wrap32 x.num) != x.num)=false:=by rw[bne_eq_false_iff_eq];exact W4m hr
          clear hr;go_wp2;go_roundw
          case rel=>exact⟨k+1,by omega,by go_num,Zj,Jn⟩
          case measure=>simp [intOf];omega
         ·have HN:=bx (Xn.out (by rw[Td.out,Z48 hr]))
          have hw:(wrap64 (wrap32 x.num) != x.num)=true:=by rw[bne_iff_ne];exact W8o hr
          clear hr;go_wp2;go_ret;exact⟨by rw[HN.out];rfl,Sj.out⟩
        ·by_cases t5:x.tag=5
         ·have Rf:=bx (X5e htx (Or.inr t5))
          have Td:Bx (cGood L x=true):=bx (by rw[Zc.out,Rf.out,W9j t1 t3];rfl);by_cases hk1:k+1<n
          ·have hkI1:(k:Int)+1<(n:Int):=by omega
           have hkJ1:(0:Int)≤(k:Int)+1:=(by omega);have hkK1:((k:Int)+1).toNat=k+1:=(by omega);obtain⟨ad3,y,he,_,HY,q0,q1,q2,q3,q4⟩:=Y4c Cb.out (k:=k+1) (by rw[HL.out];exact hk1);injection he with he
           subst he;by_cases hy0:¬y=cst0
           ·have Wy:=bx hy0
            have HN:Bx (R=false):=bx (Mr.out.2 (fun h=>Y5z HK.out.1 HX.out Td.out t5 (by rw[HY.out];intro e;injection e with e;exact hy0 e) (HK.out.2.1.1 h)));clear hy0;go_wp2_with fail
            all_goals first
             | (go_ret;exact⟨by rw[HN.out];rfl,Sj.out⟩)
             | (exfalso;refine Wy.out (X4z ?_ ?_ ?_ ?_ ?_) <;> assumption)
           ·have hy0:y=cst0:=Decidable.not_not.1 hy0
            have Zj:=bx (X3r HK.out HX.out Td.out t5 (by rw[HY.out,hy0]));subst hy0
            replace q0:we.cell? (ad.add ((k+1)*5))=some (.int .i64 0):=q0
            replace q1:we.cell? ⟨(ad.add ((k+1)*5)).block,(ad.add ((k+1)*5)).off+1,none⟩=some (.int .i64 0):=q1
            replace q2:we.cell? ⟨(ad.add ((k+1)*5)).block,(ad.add ((k+1)*5)).off+2,none⟩=some (.int .i64 0):=q2
            replace q3:we.cell? ⟨(ad.add ((k+1)*5)).block,(ad.add ((k+1)*5)).off+3,none⟩=some (.int .i64 0):=q3
            replace q4:we.cell? ⟨(ad.add ((k+1)*5)).block,(ad.add ((k+1)*5)).off+4,none⟩=some (.string ⟨#[]⟩):=q4
            clear hy0;go_wp2;go_roundw
            case rel=>exact⟨k+2,by omega,by go_num,Zj,Jn⟩
            case measure=>simp [intOf];omega
          ·have hkI1:¬(k:Int)+1<(n:Int):=by omega
           have HN:Bx (R=false):=bx (Mr.out.2 (fun h=>Y5z HK.out.1 HX.out Td.out t5 (by rw[List.getElem?_eq_none (by rw[HL.out];omega)];intro e;cases e) (HK.out.2.1.1 h)));go_wp2;go_ret;exact⟨by rw[HN.out];rfl,Sj.out⟩
         ·by_cases hnum:x.num=0
          ·have Td:Bx (cGood L x=true):=bx (by rw[Zc.out,X1s htx hnum,W9j t1 t3];rfl)
           have Zj:=bx (Y3d HK.out HX.out Td.out t5);go_wp2;go_roundw
           case rel=>exact⟨k+1,by omega,by go_num,Zj,Jn⟩
           case measure=>simp [intOf];omega
          ·have HN:=bx (Xn.out (by rw[Zc.out,Y0k t3 t5 hnum];rfl))
           have b3:(x.tag != 3)=true:=by rw[bne_iff_ne];exact t3
           have b5:(x.tag != 5)=true:=by rw[bne_iff_ne];exact t5
           have bn:(x.num != 0)=true:=by rw[bne_iff_ne];exact hnum
           go_wp2;go_ret;exact⟨by rw[HN.out];rfl,Sj.out⟩
       ·have HN:=bx (Xn.out (by rw[Zc.out,X5b t1 htx];rfl))
        go_wp2;go_ret;exact⟨by rw[HN.out];rfl,Sj.out⟩
  ·obtain rfl:n=k:=by omega
   have hkI:¬(n:Int)<(n:Int):=(by omega);have HN:Bx (R=true):=bx (Mr.out.1 (HK.out.2.1.2 (X2e (by rw[HL.out];exact Z00 _))));go_wp2;go_ret;exact⟨by rw[HN.out];rfl,Yu.out⟩
end Go.Proofs.YtpmfiegfbmamiaaDoor
