/- Contract: samovarref15.Alike. -/
import Derived.Test.YtpmfiegfbmamiaaDoorPm26
import Derived.Test.YtpmfiegfbmamiaaDoorPm23
namespace Go.Proofs.YtpmfiegfbmamiaaDoor
set_option maxRecDepth 100000
set_option maxHeartbeats 16000000
open Go.RowKit
set_option linter.unusedSimpArgs false
theorem W8s (x y:ClE) (w:World) (hx:ClX w (fun k=>k<w.heap.size) x) (hy:ClX w (fun k=>k<w.heap.size) y) (hcx:∀m∈x.mts.l,m.code.n≤1000000000) (hcy:∀m∈y.mts.l,m.code.n≤1000000000) :
  Calls Tryd.prog 7 #[.agg (clA x),.agg (clA y)] w fun e w'=>e = .returned (.bool (decide (x.p=y.p)))∧Below w.heap.size w w':=by
 have HX:=bx hx;have HY:=bx hy;have Zh:=bx hcx;have HCY:=bx hcy;obtain⟨R,hR⟩:∃R,decide (x.p=y.p)=R:=⟨_,rfl⟩;rw[hR];have HR:Bx (R=decide (x.access=y.access∧x.name=y.name∧x.super=y.super∧x.ifs.l=y.ifs.l∧x.fls.l=y.fls.l∧x.mts.l.map MtE.p=y.mts.l.map MtE.p)):=bx (by rw[←hR];exact decide_eq_decide.2 W8v);unfold clA strQ Sq.v;obtain⟨g1,hg1⟩:∃g1,w.heap.size=g1:=⟨_,rfl⟩;have hb1:=Y9z (Below.refl w.heap.size w) (Z00 _) (.cells #[.int .i64 x.access,.string ⟨x.name.toArray⟩,.string ⟨x.super.toArray⟩,.slice x.ifs.A x.ifs.n x.ifs.c,.slice x.fls.A x.fls.n x.fls.c,.slice x.mts.A x.mts.n x.mts.c,.slice x.pool.A x.pool.n x.pool.c] 27);have hk1:=Bk.newAt w 27 #[.int .i64 x.access,.string ⟨x.name.toArray⟩,.string ⟨x.super.toArray⟩,.slice x.ifs.A x.ifs.n x.ifs.c,.slice x.fls.A x.fls.n x.fls.c,.slice x.mts.A x.mts.n x.mts.c,.slice x.pool.A x.pool.n x.pool.c] hg1;obtain⟨w1,hw1⟩:∃w1,w.alloc (.cells #[.int .i64 x.access,.string ⟨x.name.toArray⟩,.string ⟨x.super.toArray⟩,.slice x.ifs.A x.ifs.n x.ifs.c,.slice x.fls.A x.fls.n x.fls.c,.slice x.mts.A x.mts.n x.mts.c,.slice x.pool.A x.pool.n x.pool.c] 27)=w1:=⟨_,rfl⟩;rw[hw1]at hb1 hk1;obtain⟨g2,hg2⟩:∃g2,w1.heap.size=g2:=⟨_,rfl⟩;have hb2:=Y9z hb1 (Z00 _) (.cells #[.int .i64 y.access,.string ⟨y.name.toArray⟩,.string ⟨y.super.toArray⟩,.slice y.ifs.A y.ifs.n y.ifs.c,.slice y.fls.A y.fls.n y.fls.c,.slice y.mts.A y.mts.n y.mts.c,.slice y.pool.A y.pool.n y.pool.c] 27);have hk1b:=hk1.alloc (.cells #[.int .i64 y.access,.string ⟨y.name.toArray⟩,.string ⟨y.super.toArray⟩,.slice y.ifs.A y.ifs.n y.ifs.c,.slice y.fls.A y.fls.n y.fls.c,.slice y.mts.A y.mts.n y.mts.c,.slice y.pool.A y.pool.n y.pool.c] 27);have hk2:=Bk.newAt w1 27 #[.int .i64 y.access,.string ⟨y.name.toArray⟩,.string ⟨y.super.toArray⟩,.slice y.ifs.A y.ifs.n y.ifs.c,.slice y.fls.A y.fls.n y.fls.c,.slice y.mts.A y.mts.n y.mts.c,.slice y.pool.A y.pool.n y.pool.c] hg2;obtain⟨w2,hw2⟩:∃w2,w1.alloc (.cells #[.int .i64 y.access,.string ⟨y.name.toArray⟩,.string ⟨y.super.toArray⟩,.slice y.ifs.A y.ifs.n y.ifs.c,.slice y.fls.A y.fls.n y.fls.c,.slice y.mts.A y.mts.n y.mts.c,.slice y.pool.A y.pool.n y.pool.c] 27)=w2:=⟨_,rfl⟩;rw[hw2]at hb2 hk1b hk2;have HB:=bx hb2;have p0:w2.cell? ⟨g1,0,none⟩=some (.int .i64 x.access):=(hk1b.cell 0).trans rfl;have p1:w2.cell? ⟨g1,1,none⟩=some (.string ⟨x.name.toArray⟩):=(hk1b.cell 1).trans rfl;have p2:w2.cell? ⟨g1,2,none⟩=some (.string ⟨x.super.toArray⟩):=(hk1b.cell 2).trans rfl;have p3:w2.cell? ⟨g1,3,none⟩=some (.slice x.ifs.A x.ifs.n x.ifs.c):=(hk1b.cell 3).trans rfl;have p4:w2.cell? ⟨g1,4,none⟩=some (.slice x.fls.A x.fls.n x.fls.c):=(hk1b.cell 4).trans rfl;have p5:w2.cell? ⟨g1,5,none⟩=some (.slice x.mts.A x.mts.n x.mts.c):=(hk1b.cell 5).trans rfl;have p6:w2.cell? ⟨g1,6,none⟩=some (.slice x.pool.A x.pool.n x.pool.c):=(hk1b.cell 6).trans rfl;have q0:w2.cell? ⟨g2,0,none⟩=some (.int .i64 y.access):=(hk2.cell 0).trans rfl;have q1:w2.cell? ⟨g2,1,none⟩=some (.string ⟨y.name.toArray⟩):=(hk2.cell 1).trans rfl;have q2:w2.cell? ⟨g2,2,none⟩=some (.string ⟨y.super.toArray⟩):=(hk2.cell 2).trans rfl;have q3:w2.cell? ⟨g2,3,none⟩=some (.slice y.ifs.A y.ifs.n y.ifs.c):=(hk2.cell 3).trans rfl;have q4:w2.cell? ⟨g2,4,none⟩=some (.slice y.fls.A y.fls.n y.fls.c):=(hk2.cell 4).trans rfl;have q5:w2.cell? ⟨g2,5,none⟩=some (.slice y.mts.A y.mts.n y.mts.c):=(hk2.cell 5).trans rfl;have q6:w2.cell? ⟨g2,6,none⟩=some (.slice y.pool.A y.pool.n y.pool.c):=(hk2.cell 6).trans rfl;have Jp:Bx (w2.cell? ⟨g1,3,none⟩=some (.slice x.ifs.A x.ifs.n x.ifs.c)∧w2.cell? ⟨g2,3,none⟩=some (.slice y.ifs.A y.ifs.n y.ifs.c)∧w2.cell? ⟨g1,4,none⟩=some (.slice x.fls.A x.fls.n x.fls.c)∧w2.cell? ⟨g2,4,none⟩=some (.slice y.fls.A y.fls.n y.fls.c)∧w2.cell? ⟨g1,5,none⟩=some (.slice x.mts.A x.mts.n x.mts.c)∧w2.cell? ⟨g2,5,none⟩=some (.slice y.mts.A y.mts.n y.mts.c)):=bx ⟨p3,q3,p4,q4,p5,q5⟩;have Wg:Bx (g1<w2.heap.size∧g2<w2.heap.size):=bx ⟨hk1b.lt,hk2.lt⟩;have Tx:Bx (x.ifs.l.length=x.ifs.n∧(x.ifs.n:Int)≤9223372036854775807∧RS txC w2 w2.heap.size x.ifs.A x.ifs.l):=bx (Y8o hx.ifs hb2);have Jg:Bx (y.ifs.l.length=y.ifs.n∧(y.ifs.n:Int)≤9223372036854775807∧RS txC w2 w2.heap.size y.ifs.A y.ifs.l):=bx (Y8o hy.ifs hb2);have Rm:Bx (x.fls.l.length=x.fls.n∧(x.fls.n:Int)≤9223372036854775807∧RS flC w2 w2.heap.size x.fls.A x.fls.l):=bx (Y8o hx.fls hb2);have Wt:Bx (y.fls.l.length=y.fls.n∧(y.fls.n:Int)≤9223372036854775807∧RS flC w2 w2.heap.size y.fls.A y.fls.l):=bx (Y8o hy.fls hb2);have Xt:Bx (x.mts.l.length=x.mts.n∧(x.mts.n:Int)≤9223372036854775807∧RS mtC w2 w2.heap.size x.mts.A x.mts.l):=bx (Y8o hx.mts hb2);have Gt:Bx (y.mts.l.length=y.mts.n∧(y.mts.n:Int)≤9223372036854775807∧RS mtC w2 w2.heap.size y.mts.A y.mts.l):=bx (Y8o hy.mts hb2);clear hx hy hR hb1 hb2 hk1 hk1b hk2 hcx hcy;by_cases e0:x.access=y.access
 ·rw[e0]at p0 hw1 ⊢
  by_cases e1:x.name=y.name
  ·rw[e1]at p1 hw1 ⊢
   by_cases e2:x.super=y.super
   ·rw[e2]at p2 hw1 ⊢
    have Db:Bx (x.access=y.access∧x.name=y.name∧x.super=y.super):=bx ⟨e0,e1,e2⟩;clear e0 e1 e2;by_cases ei:x.ifs.n=y.ifs.n
    ·by_cases ef:x.fls.n=y.fls.n
     ·by_cases em:x.mts.n=y.mts.n
      ·have eib:((x.ifs.n:Int) != (y.ifs.n:Int))=false:=by simp [ei]
       have efb:((x.fls.n:Int) != (y.fls.n:Int))=false:=(by simp [ef]);have emb:((x.mts.n:Int) != (y.mts.n:Int))=false:=(by simp [em]);have C6:=bx ei;have W6:=bx ef;have C5:=bx em;have hi9:=Tx.out.2.1;have hf9:=Rm.out.2.1;have hm9:=Xt.out.2.1;clear ei ef em
       go_enter Tryd.func7,Tryd.ntmps7
       go_upto_region 3 with(fail)
       clear p0 p1 p2 p3 p4 p5 p6 q0 q1 q2 q3 q4 q5 q6 hw1 hw2 hg1 hg2 eib efb emb;have Wj:Bx (∃m,w2=w2.drewN m):=bx ⟨0,rfl⟩;go_wp2;have Xm:Bx (x.ifs.l.take 0=y.ifs.l.take 0):=bx rfl
       go_loopw [5] (fun i wr=>∃k:Nat,k≤x.ifs.n∧i = .int .i64 (k:Int)∧Bx (x.ifs.l.take k=y.ifs.l.take k)∧Bx (∃m,wr=w2.drewN m)) (fun i _=>x.ifs.n-(intOf i).toNat)
       case atStart=>exact⟨0,by omega,rfl,Xm,Wj⟩
       case round=>
        clear Xm Wj;obtain⟨k,hk,rfl,HQ,HW⟩:=hrel;have hcl:wr.cell? ⟨g1,3,none⟩=some (.slice x.ifs.A x.ifs.n x.ifs.c)∧wr.cell? ⟨g2,3,none⟩=some (.slice y.ifs.A y.ifs.n y.ifs.c):=by obtain⟨m,e⟩:=HW.out;have h:=Jp.out;rw[e];exact⟨h.1,h.2.1⟩
        obtain⟨x7,y7⟩:=hcl;by_cases hk0:k<x.ifs.n
        ·have hk1:k<y.ifs.n:=by have:=C6.out;omega
         have hkI:(k:Int)<(x.ifs.n:Int):=(by omega);have hkI2:(k:Int)<(y.ifs.n:Int):=(by omega);have hRR:RS txC wr wr.heap.size x.ifs.A x.ifs.l∧RS txC wr wr.heap.size y.ifs.A y.ifs.l:=by obtain⟨m,e⟩:=HW.out;rw[e];exact⟨Tx.out.2.2.drewN m,Jg.out.2.2.drewN m⟩
         obtain⟨pd,hx,hpd,hlhx,Hhx,pp0,pp1⟩:=hRR.1.at_ txCels (k:=k) (by rw[Tx.out.1];exact hk0);have p0:=pp0 _ rfl;simp only[Nat.mul_one]at p0;unfold strQ at p0;clear pp0 pp1 hlhx;obtain⟨qd,hy,hqd,hlhy,Hhy,qq0,qq1⟩:=hRR.2.at_ txCels (k:=k) (by rw[Jg.out.1];exact hk1);have q0:=qq0 _ rfl;simp only[Nat.mul_one]at q0;unfold strQ at q0;clear qq0 qq1 hlhy;rw[hpd]at x7;rw[hqd]at y7;clear hRR hpd hqd;by_cases he:hx=hy
         ·have Xq:=bx (Y8n HQ.out Hhx.out Hhy.out he)
          subst he;clear HQ;go_wp2;go_quiet (fail)
          have Yk:Bx (∀nq,∃m,wr.drewN nq=w2.drewN m):=bx (fun nq=>by obtain⟨m,e⟩:=HW.out;rw[e];exact⟨m+nq,World.drewN_drewN _ _ _⟩);go_wp2;go_roundw
          case rel=>exact⟨k+1,by omega,by go_num,Xq,bx (Yk.out _)⟩
          case measure=>simp [intOf];omega
         ·have Wy:=bx he
          have HN:Bx (R=false):=bx (by rw[HR.out];exact Z48 (fun h=>Y8k Hhx.out Hhy.out he h.2.2.2.1));clear HQ;have hb:(hx==hy)=false:=(by simpa using he);have hb2:(hx != hy)=true:=(by simpa using he);have hb3:(!hx==hy)=true:=(by simpa using he);clear he;go_wp2;go_quiet (fail)
          have Yk:Bx (∀nq,∃m,wr.drewN nq=w2.drewN m):=bx (fun nq=>by obtain⟨m,e⟩:=HW.out;rw[e];exact⟨m+nq,World.drewN_drewN _ _ _⟩);have Yu:Bx (Below w.heap.size w (wr.drewN nq)):=bx (by obtain⟨m,e⟩:=Yk.out nq;rw[e];exact below_drewN HB.out _);go_wp2;go_ret;exact⟨by rw[HN.out];rfl,Yu.out⟩
        ·obtain rfl:k=x.ifs.n:=by omega
         have hkI:¬(x.ifs.n:Int)<(x.ifs.n:Int):=by omega
         have HEifs:Bx (x.ifs.l=y.ifs.l):=bx (by
          have h9:=HQ.out
          rwa [Z15 (by rw[Tx.out.1];exact Z00 _),Z15 (by rw[Jg.out.1,←C6.out];exact Z00 _)]at h9)
         have Wj:Bx (∃m,wr=w2.drewN m):=HW;clear HQ HW hk hk0;go_wp2;clear x7 y7 hkI;obtain⟨w3,rfl⟩:∃w3,w3=wr:=⟨_,rfl⟩;have Xm:Bx (x.fls.l.take 0=y.fls.l.take 0):=bx rfl
         go_loopw [6] (fun i wr=>∃k:Nat,k≤x.fls.n∧i = .int .i64 (k:Int)∧Bx (x.fls.l.take k=y.fls.l.take k)∧Bx (∃m,wr=w2.drewN m)) (fun i _=>x.fls.n-(intOf i).toNat)
         case atStart=>exact⟨0,by omega,rfl,Xm,Wj⟩
         case round=>
          clear Xm Wj;obtain⟨k,hk,rfl,HQ,HW⟩:=hrel;have hcl:wr.cell? ⟨g1,4,none⟩=some (.slice x.fls.A x.fls.n x.fls.c)∧wr.cell? ⟨g2,4,none⟩=some (.slice y.fls.A y.fls.n y.fls.c):=by obtain⟨m,e⟩:=HW.out;have h:=Jp.out;rw[e];exact⟨h.2.2.1,h.2.2.2.1⟩
          obtain⟨x7,y7⟩:=hcl;by_cases hk0:k<x.fls.n
          ·have hk1:k<y.fls.n:=by have:=W6.out;omega
           have hkI:(k:Int)<(x.fls.n:Int):=(by omega);have hkI2:(k:Int)<(y.fls.n:Int):=(by omega);have hRR:RS flC wr wr.heap.size x.fls.A x.fls.l∧RS flC wr wr.heap.size y.fls.A y.fls.l:=by obtain⟨m,e⟩:=HW.out;rw[e];exact⟨Rm.out.2.2.drewN m,Wt.out.2.2.drewN m⟩
           obtain⟨pd,hx,hpd,hlhx,Hhx,pp0,pp1⟩:=hRR.1.at_ flCels (k:=k) (by rw[Rm.out.1];exact hk0);have p0:=pp0 _ rfl;have p1:=pp1 0 _ rfl;have p2:=pp1 1 _ rfl;have p3:=pp1 2 _ rfl;simp only[Z22,Nat.reduceAdd]at p1 p2 p3;unfold strQ at p1 p2;clear pp0 pp1 hlhx;obtain⟨qd,hy,hqd,hlhy,Hhy,qq0,qq1⟩:=hRR.2.at_ flCels (k:=k) (by rw[Wt.out.1];exact hk1);have q0:=qq0 _ rfl;have q1:=qq1 0 _ rfl;have q2:=qq1 1 _ rfl;have q3:=qq1 2 _ rfl;simp only[Z22,Nat.reduceAdd]at q1 q2 q3;unfold strQ at q1 q2;clear qq0 qq1 hlhy;rw[hpd]at x7;rw[hqd]at y7;clear hRR hpd hqd;by_cases he:hx=hy
           ·have Xq:=bx (Y8n HQ.out Hhx.out Hhy.out he)
            subst he;clear HQ;go_wp2;go_quiet (fail)
            have Yk:Bx (∀nq,∃m,wr.drewN nq=w2.drewN m):=bx (fun nq=>by obtain⟨m,e⟩:=HW.out;rw[e];exact⟨m+nq,World.drewN_drewN _ _ _⟩);go_wp2;go_roundw
            case rel=>exact⟨k+1,by omega,by go_num,Xq,bx (Yk.out _)⟩
            case measure=>simp [intOf];omega
           ·have Wy:=bx he
            have HN:Bx (R=false):=bx (by rw[HR.out];exact Z48 (fun h=>Y8k Hhx.out Hhy.out he h.2.2.2.2.1));clear HQ;clear he;by_cases e0:hx.access=hy.access
            ·rw[e0]at p0
             by_cases e1:hx.name=hy.name
             ·rw[e1]at p1
              by_cases e2:hx.desc=hy.desc
              ·rw[e2]at p2
               have hlast:¬hx.const=hy.const:=fun e=>Wy.out (W8x e0 e1 e2 e);clear e0 e1 e2;go_wp2;go_quiet (fail)
               have Yk:Bx (∀nq,∃m,wr.drewN nq=w2.drewN m):=bx (fun nq=>by obtain⟨m,e⟩:=HW.out;rw[e];exact⟨m+nq,World.drewN_drewN _ _ _⟩);have Yu:Bx (Below w.heap.size w (wr.drewN nq)):=bx (by obtain⟨m,e⟩:=Yk.out nq;rw[e];exact below_drewN HB.out _);go_wp2;go_ret;exact⟨by rw[HN.out];rfl,Yu.out⟩
              ·have en:=e2
               go_wp2;go_quiet (fail)
               have Yk:Bx (∀nq,∃m,wr.drewN nq=w2.drewN m):=bx (fun nq=>by obtain⟨m,e⟩:=HW.out;rw[e];exact⟨m+nq,World.drewN_drewN _ _ _⟩);have Yu:Bx (Below w.heap.size w (wr.drewN nq)):=bx (by obtain⟨m,e⟩:=Yk.out nq;rw[e];exact below_drewN HB.out _);go_wp2;go_ret;exact⟨by rw[HN.out];rfl,Yu.out⟩
             ·have en:=e1
              go_wp2;go_quiet (fail)
              have Yk:Bx (∀nq,∃m,wr.drewN nq=w2.drewN m):=bx (fun nq=>by obtain⟨m,e⟩:=HW.out;rw[e];exact⟨m+nq,World.drewN_drewN _ _ _⟩);have Yu:Bx (Below w.heap.size w (wr.drewN nq)):=bx (by obtain⟨m,e⟩:=Yk.out nq;rw[e];exact below_drewN HB.out _);go_wp2;go_ret;exact⟨by rw[HN.out];rfl,Yu.out⟩
            ·have en:=e0
             go_wp2;go_quiet (fail)
             have Yk:Bx (∀nq,∃m,wr.drewN nq=w2.drewN m):=bx (fun nq=>by obtain⟨m,e⟩:=HW.out;rw[e];exact⟨m+nq,World.drewN_drewN _ _ _⟩);have Yu:Bx (Below w.heap.size w (wr.drewN nq)):=bx (by obtain⟨m,e⟩:=Yk.out nq;rw[e];exact below_drewN HB.out _);go_wp2;go_ret;exact⟨by rw[HN.out];rfl,Yu.out⟩
          ·obtain rfl:k=x.fls.n:=by omega
           have hkI:¬(x.fls.n:Int)<(x.fls.n:Int):=by omega
           have HEfls:Bx (x.fls.l=y.fls.l):=bx (by
            have h9:=HQ.out
            rwa [Z15 (by rw[Rm.out.1];exact Z00 _),Z15 (by rw[Wt.out.1,←W6.out];exact Z00 _)]at h9)
           have Gl:Bx (R=decide (x.mts.l.map MtE.p=y.mts.l.map MtE.p)):=bx (by rw[HR.out];have h6:=Db.out;exact decide_eq_decide.2 ⟨fun h=>h.2.2.2.2.2,fun h=>⟨h6.1,h6.2.1,h6.2.2,HEifs.out,HEfls.out,h⟩⟩);have W5:Bx (Below w2.heap.size w2 wr):=bx (by obtain⟨m,e⟩:=HW.out;rw[e];exact below_drewN (Below.refl _ _) m);clear HQ HW hk hk0;go_wp2;clear x7 y7 hkI;have Xm:Bx ((x.mts.l.take 0).map MtE.p=(y.mts.l.take 0).map MtE.p):=bx rfl;obtain⟨w4,rfl⟩:∃w4,w4=wr:=⟨_,rfl⟩
           go_loopw [7] (fun i wr=>∃k:Nat,k≤x.mts.n∧i = .int .i64 (k:Int)∧Bx ((x.mts.l.take k).map MtE.p=(y.mts.l.take k).map MtE.p)∧Bx (Below w2.heap.size w2 wr)) (fun i _=>x.mts.n-(intOf i).toNat)
           case atStart=>exact⟨0,by omega,rfl,Xm,W5⟩
           case round=>
            clear Xm W5;obtain⟨k,hk,rfl,HQ,HW⟩:=hrel;have x8:wr.cell? ⟨g1,5,none⟩=some (.slice x.mts.A x.mts.n x.mts.c):=(HW.out.cell (p:=⟨g1,5,none⟩) Wg.out.1).trans Jp.out.2.2.2.2.1;have y8:wr.cell? ⟨g2,5,none⟩=some (.slice y.mts.A y.mts.n y.mts.c):=(HW.out.cell (p:=⟨g2,5,none⟩) Wg.out.2).trans Jp.out.2.2.2.2.2;by_cases hk0:k<x.mts.n
            ·have hk1:k<y.mts.n:=by have:=C5.out;omega
             have hkI:(k:Int)<(x.mts.n:Int):=(by omega);have hkI2:(k:Int)<(y.mts.n:Int):=(by omega);obtain⟨pd,fx,hpd,hlfx,Hfx,pp0,pp1⟩:=(Xt.out.2.2.below HW.out (Z00 _)).at_ mtCels (k:=k) (by rw[Xt.out.1];exact hk0);have p0:=pp0 _ rfl;have p1:=pp1 0 _ rfl;have p2:=pp1 1 _ rfl;have p3:=pp1 2 _ rfl;have p4:=pp1 3 _ rfl;have p5:=pp1 4 _ rfl;have p6:=pp1 5 _ rfl;have p7:=pp1 6 _ rfl;have p8:=pp1 7 _ rfl;simp only[Z22,Nat.reduceAdd]at p1 p2 p3 p4 p5 p6 p7 p8;unfold strQ at p1 p2;unfold slV at p6;unfold Sq.v at p7 p8;clear pp0 pp1 hlfx;obtain⟨qd,fy,hqd,hlfy,Hfy,qq0,qq1⟩:=(Gt.out.2.2.below HW.out (Z00 _)).at_ mtCels (k:=k) (by rw[Gt.out.1];exact hk1);have q0:=qq0 _ rfl;have q1:=qq1 0 _ rfl;have q2:=qq1 1 _ rfl;have q3:=qq1 2 _ rfl;have q4:=qq1 3 _ rfl;have q5:=qq1 4 _ rfl;have q6:=qq1 5 _ rfl;have q7:=qq1 6 _ rfl;have q8:=qq1 7 _ rfl;simp only[Z22,Nat.reduceAdd]at q1 q2 q3 q4 q5 q6 q7 q8;unfold strQ at q1 q2;unfold slV at q6;unfold Sq.v at q7 q8;clear qq0 qq1 hlfy;rw[hpd]at x8;rw[hqd]at y8;have Qt:Bx (∀Y,Below wr.heap.size wr Y→Y.cell? ⟨g1,5,none⟩=some (.slice (some pd) x.mts.n x.mts.c)∧Y.cell? ⟨g2,5,none⟩=some (.slice (some qd) y.mts.n y.mts.c)∧Y.cell? (pd.add (k*9))=some (.int .i64 fx.access)∧Y.cell? ⟨(pd.add (k*9)).block,(pd.add (k*9)).off+1,none⟩=some (.string ⟨fx.name.toArray⟩)∧Y.cell? ⟨(pd.add (k*9)).block,(pd.add (k*9)).off+2,none⟩=some (.string ⟨fx.desc.toArray⟩)∧Y.cell? ⟨(pd.add (k*9)).block,(pd.add (k*9)).off+3,none⟩=some (.bool fx.there)∧Y.cell? ⟨(pd.add (k*9)).block,(pd.add (k*9)).off+4,none⟩=some (.int .i64 fx.stack)∧Y.cell? ⟨(pd.add (k*9)).block,(pd.add (k*9)).off+5,none⟩=some (.int .i64 fx.locals)∧Y.cell? ⟨(pd.add (k*9)).block,(pd.add (k*9)).off+6,none⟩=some (.slice fx.code.A fx.code.n fx.code.c)∧Y.cell? ⟨(pd.add (k*9)).block,(pd.add (k*9)).off+7,none⟩=some (.slice fx.hs.A fx.hs.n fx.hs.c)∧Y.cell? ⟨(pd.add (k*9)).block,(pd.add (k*9)).off+8,none⟩=some (.slice fx.fs.A fx.fs.n fx.fs.c)∧Y.cell? (qd.add (k*9))=some (.int .i64 fy.access)∧Y.cell? ⟨(qd.add (k*9)).block,(qd.add (k*9)).off+1,none⟩=some (.string ⟨fy.name.toArray⟩)∧Y.cell? ⟨(qd.add (k*9)).block,(qd.add (k*9)).off+2,none⟩=some (.string ⟨fy.desc.toArray⟩)∧Y.cell? ⟨(qd.add (k*9)).block,(qd.add (k*9)).off+3,none⟩=some (.bool fy.there)∧Y.cell? ⟨(qd.add (k*9)).block,(qd.add (k*9)).off+4,none⟩=some (.int .i64 fy.stack)∧Y.cell? ⟨(qd.add (k*9)).block,(qd.add (k*9)).off+5,none⟩=some (.int .i64 fy.locals)∧Y.cell? ⟨(qd.add (k*9)).block,(qd.add (k*9)).off+6,none⟩=some (.slice fy.code.A fy.code.n fy.code.c)∧Y.cell? ⟨(qd.add (k*9)).block,(qd.add (k*9)).off+7,none⟩=some (.slice fy.hs.A fy.hs.n fy.hs.c)∧Y.cell? ⟨(qd.add (k*9)).block,(qd.add (k*9)).off+8,none⟩=some (.slice fy.fs.A fy.fs.n fy.fs.c)):=bx (fun Y hb=>⟨(hb.cell (World.block_lt_of_cell? _ _ x8)).trans x8,(hb.cell (World.block_lt_of_cell? _ _ y8)).trans y8,(hb.cell (World.block_lt_of_cell? _ _ p0)).trans p0,(hb.cell (World.block_lt_of_cell? _ _ p1)).trans p1,(hb.cell (World.block_lt_of_cell? _ _ p2)).trans p2,(hb.cell (World.block_lt_of_cell? _ _ p3)).trans p3,(hb.cell (World.block_lt_of_cell? _ _ p4)).trans p4,(hb.cell (World.block_lt_of_cell? _ _ p5)).trans p5,(hb.cell (World.block_lt_of_cell? _ _ p6)).trans p6,(hb.cell (World.block_lt_of_cell? _ _ p7)).trans p7,(hb.cell (World.block_lt_of_cell? _ _ p8)).trans p8,(hb.cell (World.block_lt_of_cell? _ _ q0)).trans q0,(hb.cell (World.block_lt_of_cell? _ _ q1)).trans q1,(hb.cell (World.block_lt_of_cell? _ _ q2)).trans q2,(hb.cell (World.block_lt_of_cell? _ _ q3)).trans q3,(hb.cell (World.block_lt_of_cell? _ _ q4)).trans q4,(hb.cell (World.block_lt_of_cell? _ _ q5)).trans q5,(hb.cell (World.block_lt_of_cell? _ _ q6)).trans q6,(hb.cell (World.block_lt_of_cell? _ _ q7)).trans q7,(hb.cell (World.block_lt_of_cell? _ _ q8)).trans q8⟩);obtain⟨bm,hbm⟩:∃bm,decide (fx.p=fy.p)=bm:=⟨_,rfl⟩;have C4:=bx hbm
             have Ve:Bx (∀Y,Below wr.heap.size wr Y→Calls Tryd.prog 18 #[.agg #[.int .i64 fx.access,.string ⟨fx.name.toArray⟩,.string ⟨fx.desc.toArray⟩,.bool fx.there,.int .i64 fx.stack,.int .i64 fx.locals,.slice fx.code.A fx.code.n fx.code.c,.slice fx.hs.A fx.hs.n fx.hs.c,.slice fx.fs.A fx.fs.n fx.fs.c],.agg #[.int .i64 fy.access,.string ⟨fy.name.toArray⟩,.string ⟨fy.desc.toArray⟩,.bool fy.there,.int .i64 fy.stack,.int .i64 fy.locals,.slice fy.code.A fy.code.n fy.code.c,.slice fy.hs.A fy.hs.n fy.hs.c,.slice fy.fs.A fy.fs.n fy.fs.c]] Y fun e w'=>e = .returned (.bool bm)∧Below Y.heap.size Y w'):=bx (fun Y hb=>by
              have hz:Below w.heap.size w Y:=HB.out.trans ((HW.out.trans (hb.mono HW.out.size)).mono HB.out.size);have mx:=Z16 Hfx.out;have my:=Z16 Hfy.out;rw[←hbm];exact X5x fx fy Y ((HX.out.mt fx mx).step (fun k hk=>hz.block k hk) (fun k hk=>Z07 hk hz.size)) ((HY.out.mt fy my).step (fun k hk=>hz.block k hk) (fun k hk=>Z07 hk hz.size)) (Zh.out fx mx) (HCY.out fy my))
             clear hbm hpd hqd;go_upto_region 16 with(fail)
             clear x8 y8 p0 p1 p2 p3 p4 p5 p6 p7 p8 q0 q1 q2 q3 q4 q5 q6 q7 q8;cases bm with
             | false=>
              have HN:Bx (R=false):=bx (by rw[Gl.out];exact Z48 (Y7w Hfx.out Hfy.out (of_decide_eq_false C4.out)));clear HQ;refine Y9x (S:=fun w'=>w'.cell? ⟨g1,5,none⟩=some (.slice (some pd) x.mts.n x.mts.c)∧w'.cell? ⟨g2,5,none⟩=some (.slice (some qd) y.mts.n y.mts.c)∧w'.cell? (pd.add (k*9))=some (.int .i64 fx.access)∧w'.cell? ⟨(pd.add (k*9)).block,(pd.add (k*9)).off+1,none⟩=some (.string ⟨fx.name.toArray⟩)∧w'.cell? ⟨(pd.add (k*9)).block,(pd.add (k*9)).off+2,none⟩=some (.string ⟨fx.desc.toArray⟩)∧w'.cell? ⟨(pd.add (k*9)).block,(pd.add (k*9)).off+3,none⟩=some (.bool fx.there)∧w'.cell? ⟨(pd.add (k*9)).block,(pd.add (k*9)).off+4,none⟩=some (.int .i64 fx.stack)∧w'.cell? ⟨(pd.add (k*9)).block,(pd.add (k*9)).off+5,none⟩=some (.int .i64 fx.locals)∧w'.cell? ⟨(pd.add (k*9)).block,(pd.add (k*9)).off+6,none⟩=some (.slice fx.code.A fx.code.n fx.code.c)∧w'.cell? ⟨(pd.add (k*9)).block,(pd.add (k*9)).off+7,none⟩=some (.slice fx.hs.A fx.hs.n fx.hs.c)∧w'.cell? ⟨(pd.add (k*9)).block,(pd.add (k*9)).off+8,none⟩=some (.slice fx.fs.A fx.fs.n fx.fs.c)∧w'.cell? (qd.add (k*9))=some (.int .i64 fy.access)∧w'.cell? ⟨(qd.add (k*9)).block,(qd.add (k*9)).off+1,none⟩=some (.string ⟨fy.name.toArray⟩)∧w'.cell? ⟨(qd.add (k*9)).block,(qd.add (k*9)).off+2,none⟩=some (.string ⟨fy.desc.toArray⟩)∧w'.cell? ⟨(qd.add (k*9)).block,(qd.add (k*9)).off+3,none⟩=some (.bool fy.there)∧w'.cell? ⟨(qd.add (k*9)).block,(qd.add (k*9)).off+4,none⟩=some (.int .i64 fy.stack)∧w'.cell? ⟨(qd.add (k*9)).block,(qd.add (k*9)).off+5,none⟩=some (.int .i64 fy.locals)∧w'.cell? ⟨(qd.add (k*9)).block,(qd.add (k*9)).off+6,none⟩=some (.slice fy.code.A fy.code.n fy.code.c)∧w'.cell? ⟨(qd.add (k*9)).block,(qd.add (k*9)).off+7,none⟩=some (.slice fy.hs.A fy.hs.n fy.hs.c)∧w'.cell? ⟨(qd.add (k*9)).block,(qd.add (k*9)).off+8,none⟩=some (.slice fy.fs.A fy.fs.n fy.fs.c)) (.tk 0 (.tk 1 (.tk 2 (.tk 3 (.tk 4 (.tk 5 (.tk 6 (.tk 7 (.tk 8 (.tk 9 (.rn 10 (.tk 11 .fin)))))))))))) (by kernel_rfl) (by kernel_rfl) (by kernel_rfl) (fun _ _ _ _ h=>h) (Qt.out _ (below_drewN (Below.refl wr.heap.size wr) 1)) ?_;have Yd:Bx (Below wr.heap.size wr wr.drew):=bx (below_drewN (Below.refl wr.heap.size wr) 1);generalize wr.drew=y0 at Yd ⊢
              iterate 10 (apply SeqW.take;(· rfl);(· (refine Or.inl ⟨?_,?_⟩;(· rfl);(· (intro w hSw;(try dsimp only at hSw);go_simp <;> with_reducible rfl))));simp only[Act.put,Z01,Z02,Z03,Z06,Z04,Z05])
              refine SeqW.run rfl (fun K hK hP=>?_);go_wp2_with (go_at_call 18;refine(Ve.out y0 Yd.out).mono ?_;rintro e y1 ⟨rfl,hbz⟩)
              have Pt:=bx (Yd.out.trans (hbz.mono Yd.out.size));clear hbz Yd;refine hK.out _ _ (Qt.out _ Pt.out) ?_;clear hK hP K
              iterate 1 (apply SeqW.take;(· rfl);(· (refine Or.inl ⟨?_,?_⟩;(· rfl);(· (intro w hSw;(try dsimp only at hSw);go_simp <;> with_reducible rfl))));simp only[Act.put,Z01,Z02,Z03,Z06,Z04,Z05])
              refine SeqW.done ?_
              (try simp only[Act.put,Z01,Z02,Z03])
              have Sh:Bx (Below w2.heap.size w2 y1):=bx (HW.out.trans (Pt.out.mono HW.out.size));have Yu:Bx (Below w.heap.size w y1):=bx (HB.out.trans (Sh.out.mono HB.out.size));clear Qt Ve Pt;go_wp2;go_ret;exact⟨by rw[HN.out];rfl,Yu.out⟩
             | true=>
              have Xq:=bx (Y6r HQ.out Hfx.out Hfy.out (Z49 C4.out));clear HQ;refine Y9x (S:=fun w'=>w'.cell? ⟨g1,5,none⟩=some (.slice (some pd) x.mts.n x.mts.c)∧w'.cell? ⟨g2,5,none⟩=some (.slice (some qd) y.mts.n y.mts.c)∧w'.cell? (pd.add (k*9))=some (.int .i64 fx.access)∧w'.cell? ⟨(pd.add (k*9)).block,(pd.add (k*9)).off+1,none⟩=some (.string ⟨fx.name.toArray⟩)∧w'.cell? ⟨(pd.add (k*9)).block,(pd.add (k*9)).off+2,none⟩=some (.string ⟨fx.desc.toArray⟩)∧w'.cell? ⟨(pd.add (k*9)).block,(pd.add (k*9)).off+3,none⟩=some (.bool fx.there)∧w'.cell? ⟨(pd.add (k*9)).block,(pd.add (k*9)).off+4,none⟩=some (.int .i64 fx.stack)∧w'.cell? ⟨(pd.add (k*9)).block,(pd.add (k*9)).off+5,none⟩=some (.int .i64 fx.locals)∧w'.cell? ⟨(pd.add (k*9)).block,(pd.add (k*9)).off+6,none⟩=some (.slice fx.code.A fx.code.n fx.code.c)∧w'.cell? ⟨(pd.add (k*9)).block,(pd.add (k*9)).off+7,none⟩=some (.slice fx.hs.A fx.hs.n fx.hs.c)∧w'.cell? ⟨(pd.add (k*9)).block,(pd.add (k*9)).off+8,none⟩=some (.slice fx.fs.A fx.fs.n fx.fs.c)∧w'.cell? (qd.add (k*9))=some (.int .i64 fy.access)∧w'.cell? ⟨(qd.add (k*9)).block,(qd.add (k*9)).off+1,none⟩=some (.string ⟨fy.name.toArray⟩)∧w'.cell? ⟨(qd.add (k*9)).block,(qd.add (k*9)).off+2,none⟩=some (.string ⟨fy.desc.toArray⟩)∧w'.cell? ⟨(qd.add (k*9)).block,(qd.add (k*9)).off+3,none⟩=some (.bool fy.there)∧w'.cell? ⟨(qd.add (k*9)).block,(qd.add (k*9)).off+4,none⟩=some (.int .i64 fy.stack)∧w'.cell? ⟨(qd.add (k*9)).block,(qd.add (k*9)).off+5,none⟩=some (.int .i64 fy.locals)∧w'.cell? ⟨(qd.add (k*9)).block,(qd.add (k*9)).off+6,none⟩=some (.slice fy.code.A fy.code.n fy.code.c)∧w'.cell? ⟨(qd.add (k*9)).block,(qd.add (k*9)).off+7,none⟩=some (.slice fy.hs.A fy.hs.n fy.hs.c)∧w'.cell? ⟨(qd.add (k*9)).block,(qd.add (k*9)).off+8,none⟩=some (.slice fy.fs.A fy.fs.n fy.fs.c)) (.tk 0 (.tk 1 (.tk 2 (.tk 3 (.tk 4 (.tk 5 (.tk 6 (.tk 7 (.tk 8 (.tk 9 (.rn 10 (.tk 11 .fin)))))))))))) (by kernel_rfl) (by kernel_rfl) (by kernel_rfl) (fun _ _ _ _ h=>h) (Qt.out _ (below_drewN (Below.refl wr.heap.size wr) 1)) ?_;have Yd:Bx (Below wr.heap.size wr wr.drew):=bx (below_drewN (Below.refl wr.heap.size wr) 1);generalize wr.drew=y0 at Yd ⊢
              iterate 10 (apply SeqW.take;(· rfl);(· (refine Or.inl ⟨?_,?_⟩;(· rfl);(· (intro w hSw;(try dsimp only at hSw);go_simp <;> with_reducible rfl))));simp only[Act.put,Z01,Z02,Z03,Z06,Z04,Z05])
              refine SeqW.run rfl (fun K hK hP=>?_);go_wp2_with (go_at_call 18;refine(Ve.out y0 Yd.out).mono ?_;rintro e y1 ⟨rfl,hbz⟩)
              have Pt:=bx (Yd.out.trans (hbz.mono Yd.out.size));clear hbz Yd;refine hK.out _ _ (Qt.out _ Pt.out) ?_;clear hK hP K
              iterate 1 (apply SeqW.take;(· rfl);(· (refine Or.inl ⟨?_,?_⟩;(· rfl);(· (intro w hSw;(try dsimp only at hSw);go_simp <;> with_reducible rfl))));simp only[Act.put,Z01,Z02,Z03,Z06,Z04,Z05])
              refine SeqW.done ?_
              (try simp only[Act.put,Z01,Z02,Z03])
              have Sh:Bx (Below w2.heap.size w2 y1):=bx (HW.out.trans (Pt.out.mono HW.out.size));have Yu:Bx (Below w.heap.size w y1):=bx (HB.out.trans (Sh.out.mono HB.out.size));clear Qt Ve Pt;go_wp2;go_roundw
              case rel=>exact⟨k+1,by omega,by go_num,Xq,Sh⟩
              case measure=>simp [intOf];omega
            ·obtain rfl:k=x.mts.n:=by omega
             have hkI:¬(x.mts.n:Int)<(x.mts.n:Int):=(by omega);have HN:Bx (R=true):=bx (by have h9:=HQ.out;rw[Z15 (by rw[Xt.out.1];exact Z00 _),Z15 (by rw[Gt.out.1,←C5.out];exact Z00 _)]at h9;rw[Gl.out];exact Z47 h9);have Yu:Bx (Below w.heap.size w wr):=bx (HB.out.trans (HW.out.mono HB.out.size));clear HQ;go_wp2;go_ret;exact⟨by rw[HN.out];rfl,Yu.out⟩
      ·have eib:((x.ifs.n:Int) != (y.ifs.n:Int))=false:=by simp [ei]
       have efb:((x.fls.n:Int) != (y.fls.n:Int))=false:=(by simp [ef]);have eb:((x.mts.n:Int) != (y.mts.n:Int))=true:=by simp;omega
       have Zi:Bx (R=false):=bx (by rw[HR.out];exact Z48 (fun h=>em (by have h2:=congrArg List.length h.2.2.2.2.2;rw[Z17,Z17,Xt.out.1,Gt.out.1]at h2;exact h2)));clear em ef ei
       go_enter Tryd.func7,Tryd.ntmps7
       go_wp2;go_ret;exact⟨by rw[Zi.out];rfl,HB.out⟩
     ·have eib:((x.ifs.n:Int) != (y.ifs.n:Int))=false:=by simp [ei]
      have eb:((x.fls.n:Int) != (y.fls.n:Int))=true:=by simp;omega
      have Zi:Bx (R=false):=bx (by rw[HR.out];exact Z48 (fun h=>ef (by have h2:=congrArg List.length h.2.2.2.2.1;rw[Rm.out.1,Wt.out.1]at h2;exact h2)));clear ef ei
      go_enter Tryd.func7,Tryd.ntmps7
      go_wp2;go_ret;exact⟨by rw[Zi.out];rfl,HB.out⟩
    ·have eb:((x.ifs.n:Int) != (y.ifs.n:Int))=true:=by simp;omega
     have Zi:Bx (R=false):=bx (by rw[HR.out];exact Z48 (fun h=>ei (by have h2:=congrArg List.length h.2.2.2.1;rw[Tx.out.1,Jg.out.1]at h2;exact h2)));clear ei
     go_enter Tryd.func7,Tryd.ntmps7
     go_wp2;go_ret;exact⟨by rw[Zi.out];rfl,HB.out⟩
   ·have hb:(x.super==y.super)=false:=by simpa using e2
    have hb2:(x.super != y.super)=true:=(by simpa using e2);have hb3:(!x.super==y.super)=true:=(by simpa using e2);have Zi:Bx (R=false):=bx (by rw[HR.out];exact Z48 (fun h=>e2 h.2.2.1));clear e0 e1 e2
    go_enter Tryd.func7,Tryd.ntmps7
    go_wp2;go_ret;exact⟨by rw[Zi.out];rfl,HB.out⟩
  ·have hb:(x.name==y.name)=false:=by simpa using e1
   have hb2:(x.name != y.name)=true:=(by simpa using e1);have hb3:(!x.name==y.name)=true:=(by simpa using e1);have Zi:Bx (R=false):=bx (by rw[HR.out];exact Z48 (fun h=>e1 h.2.1));clear e0 e1
   go_enter Tryd.func7,Tryd.ntmps7
   go_wp2;go_ret;exact⟨by rw[Zi.out];rfl,HB.out⟩
 ·have hb:(x.access==y.access)=false:=by simpa using e0
  have hb2:(x.access != y.access)=true:=(by simpa using e0);have hb3:(!x.access==y.access)=true:=(by simpa using e0);have Zi:Bx (R=false):=bx (by rw[HR.out];exact Z48 (fun h=>e0 h.1));clear e0
  go_enter Tryd.func7,Tryd.ntmps7
  go_wp2;go_ret;exact⟨by rw[Zi.out];rfl,HB.out⟩
end Go.Proofs.YtpmfiegfbmamiaaDoor
