/- Contract: samovarref15.SameMethod. -/
import Derived.Test.YtpmfiegfbmamiaaDoorPm23
import Derived.Test.YtpmfiegfbmamiaaDoorPm5
import Derived.Test.YtpmfiegfbmamiaaDoorPm3
namespace Go.Proofs.YtpmfiegfbmamiaaDoor
set_option maxRecDepth 100000
set_option maxHeartbeats 16000000
open Go.RowKit
set_option linter.unusedSimpArgs false
theorem X5x (x y:MtE) (w:World) (hx:MtX w (fun k=>k<w.heap.size) x) (hy:MtX w (fun k=>k<w.heap.size) y) (hcx:x.code.n≤1000000000) (hcy:y.code.n≤1000000000) :
  Calls Tryd.prog 18 #[.agg #[.int .i64 x.access,.string ⟨x.name.toArray⟩,.string ⟨x.desc.toArray⟩,.bool x.there,.int .i64 x.stack,.int .i64 x.locals,.slice x.code.A x.code.n x.code.c,.slice x.hs.A x.hs.n x.hs.c,.slice x.fs.A x.fs.n x.fs.c],.agg #[.int .i64 y.access,.string ⟨y.name.toArray⟩,.string ⟨y.desc.toArray⟩,.bool y.there,.int .i64 y.stack,.int .i64 y.locals,.slice y.code.A y.code.n y.code.c,.slice y.hs.A y.hs.n y.hs.c,.slice y.fs.A y.fs.n y.fs.c]] w fun e w'=>e = .returned (.bool (decide (x.p=y.p)))∧Below w.heap.size w w':=by
 have HX:=bx hx;have HY:=bx hy;obtain⟨R,hR⟩:∃R,decide (x.p=y.p)=R:=⟨_,rfl⟩;rw[hR];have HR:Bx (R=decide (x.access=y.access∧x.name=y.name∧x.desc=y.desc∧x.there=y.there∧x.stack=y.stack∧x.locals=y.locals∧x.code.l=y.code.l∧x.hs.l=y.hs.l∧x.fs.l.map FrE.p=y.fs.l.map FrE.p)):=bx (by rw[←hR];exact decide_eq_decide.2 W9g);obtain⟨g1,hg1⟩:∃g1,w.heap.size=g1:=⟨_,rfl⟩;have hb1:=Y9z (Below.refl w.heap.size w) (Z00 _) (.cells #[.int .i64 x.access,.string ⟨x.name.toArray⟩,.string ⟨x.desc.toArray⟩,.bool x.there,.int .i64 x.stack,.int .i64 x.locals,.slice x.code.A x.code.n x.code.c,.slice x.hs.A x.hs.n x.hs.c,.slice x.fs.A x.fs.n x.fs.c] 51);have hk1:=Bk.newAt w 51 #[.int .i64 x.access,.string ⟨x.name.toArray⟩,.string ⟨x.desc.toArray⟩,.bool x.there,.int .i64 x.stack,.int .i64 x.locals,.slice x.code.A x.code.n x.code.c,.slice x.hs.A x.hs.n x.hs.c,.slice x.fs.A x.fs.n x.fs.c] hg1;obtain⟨w1,hw1⟩:∃w1,w.alloc (.cells #[.int .i64 x.access,.string ⟨x.name.toArray⟩,.string ⟨x.desc.toArray⟩,.bool x.there,.int .i64 x.stack,.int .i64 x.locals,.slice x.code.A x.code.n x.code.c,.slice x.hs.A x.hs.n x.hs.c,.slice x.fs.A x.fs.n x.fs.c] 51)=w1:=⟨_,rfl⟩;rw[hw1]at hb1 hk1;obtain⟨g2,hg2⟩:∃g2,w1.heap.size=g2:=⟨_,rfl⟩;have hb2:=Y9z hb1 (Z00 _) (.cells #[.int .i64 y.access,.string ⟨y.name.toArray⟩,.string ⟨y.desc.toArray⟩,.bool y.there,.int .i64 y.stack,.int .i64 y.locals,.slice y.code.A y.code.n y.code.c,.slice y.hs.A y.hs.n y.hs.c,.slice y.fs.A y.fs.n y.fs.c] 51);have hk1b:=hk1.alloc (.cells #[.int .i64 y.access,.string ⟨y.name.toArray⟩,.string ⟨y.desc.toArray⟩,.bool y.there,.int .i64 y.stack,.int .i64 y.locals,.slice y.code.A y.code.n y.code.c,.slice y.hs.A y.hs.n y.hs.c,.slice y.fs.A y.fs.n y.fs.c] 51);have hk2:=Bk.newAt w1 51 #[.int .i64 y.access,.string ⟨y.name.toArray⟩,.string ⟨y.desc.toArray⟩,.bool y.there,.int .i64 y.stack,.int .i64 y.locals,.slice y.code.A y.code.n y.code.c,.slice y.hs.A y.hs.n y.hs.c,.slice y.fs.A y.fs.n y.fs.c] hg2;obtain⟨w2,hw2⟩:∃w2,w1.alloc (.cells #[.int .i64 y.access,.string ⟨y.name.toArray⟩,.string ⟨y.desc.toArray⟩,.bool y.there,.int .i64 y.stack,.int .i64 y.locals,.slice y.code.A y.code.n y.code.c,.slice y.hs.A y.hs.n y.hs.c,.slice y.fs.A y.fs.n y.fs.c] 51)=w2:=⟨_,rfl⟩;rw[hw2]at hb2 hk1b hk2;have HB:=bx hb2;have Jk:Bx (w.heap.size≤g1∧g1<g2):=bx ⟨by omega,by have:=hk1.lt;omega⟩;have p0:w2.cell? ⟨g1,0,none⟩=some (.int .i64 x.access):=(hk1b.cell 0).trans rfl;have p1:w2.cell? ⟨g1,1,none⟩=some (.string ⟨x.name.toArray⟩):=(hk1b.cell 1).trans rfl;have p2:w2.cell? ⟨g1,2,none⟩=some (.string ⟨x.desc.toArray⟩):=(hk1b.cell 2).trans rfl;have p3:w2.cell? ⟨g1,3,none⟩=some (.bool x.there):=(hk1b.cell 3).trans rfl;have p4:w2.cell? ⟨g1,4,none⟩=some (.int .i64 x.stack):=(hk1b.cell 4).trans rfl;have p5:w2.cell? ⟨g1,5,none⟩=some (.int .i64 x.locals):=(hk1b.cell 5).trans rfl;have p6:w2.cell? ⟨g1,6,none⟩=some (.slice x.code.A x.code.n x.code.c):=(hk1b.cell 6).trans rfl;have p7:w2.cell? ⟨g1,7,none⟩=some (.slice x.hs.A x.hs.n x.hs.c):=(hk1b.cell 7).trans rfl;have p8:w2.cell? ⟨g1,8,none⟩=some (.slice x.fs.A x.fs.n x.fs.c):=(hk1b.cell 8).trans rfl;have q0:w2.cell? ⟨g2,0,none⟩=some (.int .i64 y.access):=(hk2.cell 0).trans rfl;have q1:w2.cell? ⟨g2,1,none⟩=some (.string ⟨y.name.toArray⟩):=(hk2.cell 1).trans rfl;have q2:w2.cell? ⟨g2,2,none⟩=some (.string ⟨y.desc.toArray⟩):=(hk2.cell 2).trans rfl;have q3:w2.cell? ⟨g2,3,none⟩=some (.bool y.there):=(hk2.cell 3).trans rfl;have q4:w2.cell? ⟨g2,4,none⟩=some (.int .i64 y.stack):=(hk2.cell 4).trans rfl;have q5:w2.cell? ⟨g2,5,none⟩=some (.int .i64 y.locals):=(hk2.cell 5).trans rfl;have q6:w2.cell? ⟨g2,6,none⟩=some (.slice y.code.A y.code.n y.code.c):=(hk2.cell 6).trans rfl;have q7:w2.cell? ⟨g2,7,none⟩=some (.slice y.hs.A y.hs.n y.hs.c):=(hk2.cell 7).trans rfl;have q8:w2.cell? ⟨g2,8,none⟩=some (.slice y.fs.A y.fs.n y.fs.c):=(hk2.cell 8).trans rfl;have Jp:Bx (w2.cell? ⟨g1,7,none⟩=some (.slice x.hs.A x.hs.n x.hs.c)∧w2.cell? ⟨g2,7,none⟩=some (.slice y.hs.A y.hs.n y.hs.c)∧w2.cell? ⟨g1,8,none⟩=some (.slice x.fs.A x.fs.n x.fs.c)∧w2.cell? ⟨g2,8,none⟩=some (.slice y.fs.A y.fs.n y.fs.c)):=bx ⟨p7,q7,p8,q8⟩;have Wg:Bx (g1<w2.heap.size∧g2<w2.heap.size):=bx ⟨hk1b.lt,hk2.lt⟩;obtain⟨bc,hbc⟩:∃bc,decide (x.code.l=y.code.l)=bc:=⟨_,rfl⟩
 have Ws:Bx (∀nq,Calls Tryd.prog 43 #[.slice x.code.A x.code.n x.code.c,.slice y.code.A y.code.n y.code.c] (w2.drewN nq) fun e w'=>e = .returned (.bool bc)∧∃q,w'=w2.drewN q):=bx (fun nq=>by
  rw[←hbc];have a:=X9a hx.code hb2;have b:=X9a hy.code hb2
  exact(X8e _ _ _ _ _ _ _ _ _ a.1 b.1 (by omega) (by omega) (a.2.2.drewN nq) (b.2.2.drewN nq)).mono (fun e w' h=>⟨h.1,by obtain⟨q,hq⟩:=h.2;exact⟨nq+q,by rw[hq];exact World.drewN_drewN _ _ _⟩⟩))
 have Xj:=bx hbc;have W7:Bx (x.hs.l.length=x.hs.n∧(x.hs.n:Int)≤9223372036854775807∧RS hnC w2 w2.heap.size x.hs.A x.hs.l):=bx (Y8o hx.hs hb2);have S6:Bx (y.hs.l.length=y.hs.n∧(y.hs.n:Int)≤9223372036854775807∧RS hnC w2 w2.heap.size y.hs.A y.hs.l):=bx (Y8o hy.hs hb2);have Rm:Bx (x.fs.l.length=x.fs.n∧(x.fs.n:Int)≤9223372036854775807∧RS frC w2 w2.heap.size x.fs.A x.fs.l):=bx (Y8o hx.fs hb2);have Wt:Bx (y.fs.l.length=y.fs.n∧(y.fs.n:Int)≤9223372036854775807∧RS frC w2 w2.heap.size y.fs.A y.fs.l):=bx (Y8o hy.fs hb2);clear hx hy hR hb1 hb2 hk1 hk1b hk2 hbc hcx hcy;by_cases e0:x.access=y.access
 ·rw[e0]at p0 hw1 ⊢
  by_cases e1:x.name=y.name
  ·rw[e1]at p1 hw1 ⊢
   by_cases e2:x.desc=y.desc
   ·rw[e2]at p2 hw1 ⊢
    by_cases e3:x.there=y.there
    ·rw[e3]at p3 hw1 ⊢
     by_cases e4:x.stack=y.stack
     ·rw[e4]at p4 hw1 ⊢
      by_cases e5:x.locals=y.locals
      ·rw[e5]at p5 hw1 ⊢
       have Db:Bx (x.access=y.access∧x.name=y.name∧x.desc=y.desc∧x.there=y.there∧x.stack=y.stack∧x.locals=y.locals):=bx ⟨e0,e1,e2,e3,e4,e5⟩;clear e0 e1 e2 e3 e4 e5;cases bc with
       | false=>
        have Zi:Bx (R=false):=bx (by rw[HR.out];exact Z48 (fun h=>of_decide_eq_false Xj.out h.2.2.2.2.2.2.1))
        go_enter Tryd.func18,Tryd.ntmps18
        go_wp2_with (go_at_call 43;refine(Ws.out 0).mono ?_;rintro e w3 ⟨rfl,q,rfl⟩)
        go_ret;exact⟨by rw[Zi.out];rfl,below_drewN HB.out _⟩
       | true=>
        by_cases eh:x.hs.n=y.hs.n
        ·have ehb:((x.hs.n:Int) != (y.hs.n:Int))=false:=by simp [eh]
         by_cases ef:x.fs.n=y.fs.n
         ·have efb:((x.fs.n:Int) != (y.fs.n:Int))=false:=by simp [ef]
          have C8:=bx eh;have W6:=bx ef;have hn9:=W7.out.2.1;have hf9:=Rm.out.2.1;clear eh ef
          go_enter Tryd.func18,Tryd.ntmps18
          go_upto_region 3 with(go_at_call 43;refine(Ws.out 0).mono ?_;rintro e w3 ⟨rfl,q,rfl⟩)
          clear p0 p1 p2 p3 p4 p5 p6 p7 p8 q0 q1 q2 q3 q4 q5 q6 q7 q8 hw1 hw2 hg1 hg2 ehb efb Ws;have Wj:Bx (∃m,w2.drewN q=w2.drewN m):=bx ⟨q,rfl⟩;generalize w2.drewN q=w3 at Wj ⊢;have Xm:Bx (x.hs.l.take 0=y.hs.l.take 0):=bx rfl;go_wp2
          go_loopw [5] (fun i wr=>∃k:Nat,k≤x.hs.n∧i = .int .i64 (k:Int)∧Bx (x.hs.l.take k=y.hs.l.take k)∧Bx (∃m,wr=w2.drewN m)) (fun i _=>x.hs.n-(intOf i).toNat)
          case atStart=>exact⟨0,by omega,rfl,Xm,Wj⟩
          case round=>
           clear Xm Wj;obtain⟨k,hk,rfl,HQ,HW⟩:=hrel;have hcl:wr.cell? ⟨g1,7,none⟩=some (.slice x.hs.A x.hs.n x.hs.c)∧wr.cell? ⟨g2,7,none⟩=some (.slice y.hs.A y.hs.n y.hs.c):=by obtain⟨m,e⟩:=HW.out;rw[e];exact⟨Jp.out.1,Jp.out.2.1⟩
           obtain⟨x7,y7⟩:=hcl;by_cases hk0:k<x.hs.n
           ·have hk1:k<y.hs.n:=by have:=C8.out;omega
            have hkI:(k:Int)<(x.hs.n:Int):=(by omega);have hkI2:(k:Int)<(y.hs.n:Int):=(by omega);have hRR:RS hnC wr wr.heap.size x.hs.A x.hs.l∧RS hnC wr wr.heap.size y.hs.A y.hs.l:=by obtain⟨m,e⟩:=HW.out;rw[e];exact⟨W7.out.2.2.drewN m,S6.out.2.2.drewN m⟩
            obtain⟨pd,hx,hpd,hlhx,Hhx,pp0,pp1⟩:=hRR.1.at_ hnCels (k:=k) (by rw[W7.out.1];exact hk0);have p0:=pp0 _ rfl;have p1:=pp1 0 _ rfl;have p2:=pp1 1 _ rfl;have p3:=pp1 2 _ rfl;simp only[Z22,Nat.reduceAdd]at p1 p2 p3;unfold strQ at p3;clear pp0 pp1 hlhx;obtain⟨qd,hy,hqd,hlhy,Hhy,qq0,qq1⟩:=hRR.2.at_ hnCels (k:=k) (by rw[S6.out.1];exact hk1);have q0:=qq0 _ rfl;have q1:=qq1 0 _ rfl;have q2:=qq1 1 _ rfl;have q3:=qq1 2 _ rfl;simp only[Z22,Nat.reduceAdd]at q1 q2 q3;unfold strQ at q3;clear qq0 qq1 hlhy;rw[hpd]at x7;rw[hqd]at y7;clear hRR hpd hqd;by_cases he:hx=hy
            ·have Xq:=bx (Y8n HQ.out Hhx.out Hhy.out he)
             subst he;clear HQ;go_wp2;go_quiet (fail)
             have Yk:Bx (∀nq,∃m,wr.drewN nq=w2.drewN m):=bx (fun nq=>by obtain⟨m,e⟩:=HW.out;rw[e];exact⟨m+nq,World.drewN_drewN _ _ _⟩);go_wp2;go_roundw
             case rel=>exact⟨k+1,by omega,by go_num,Xq,bx (Yk.out _)⟩
             case measure=>simp [intOf];omega
            ·have Wy:=bx he
             have HN:Bx (R=false):=bx (by rw[HR.out];exact Z48 (fun h=>Y8k Hhx.out Hhy.out he h.2.2.2.2.2.2.2.1));clear HQ he;by_cases e0:hx.from_=hy.from_
             ·rw[e0]at p0
              by_cases e1:hx.to_=hy.to_
              ·rw[e1]at p1
               by_cases e2:hx.at_=hy.at_
               ·rw[e2]at p2
                have hlast:¬hx.name=hy.name:=fun e=>Wy.out (W8y e0 e1 e2 e);clear e0 e1 e2;go_wp2;go_quiet (fail)
                have Yk:Bx (∀nq,∃m,wr.drewN nq=w2.drewN m):=bx (fun nq=>by obtain⟨m,e⟩:=HW.out;rw[e];exact⟨m+nq,World.drewN_drewN _ _ _⟩);have Yu:Bx (Below w.heap.size w (wr.drewN nq)):=bx (by obtain⟨m,e⟩:=Yk.out nq;rw[e];exact below_drewN HB.out _);go_wp2;go_ret;exact⟨by rw[HN.out];rfl,Yu.out⟩
               ·have en:=e2
                go_wp2;go_quiet (fail)
                have Yk:Bx (∀nq,∃m,wr.drewN nq=w2.drewN m):=bx (fun nq=>by obtain⟨m,e⟩:=HW.out;rw[e];exact⟨m+nq,World.drewN_drewN _ _ _⟩);have Yu:Bx (Below w.heap.size w (wr.drewN nq)):=bx (by obtain⟨m,e⟩:=Yk.out nq;rw[e];exact below_drewN HB.out _);go_wp2;go_ret;exact⟨by rw[HN.out];rfl,Yu.out⟩
              ·have en:=e1
               go_wp2;go_quiet (fail)
               have Yk:Bx (∀nq,∃m,wr.drewN nq=w2.drewN m):=bx (fun nq=>by obtain⟨m,e⟩:=HW.out;rw[e];exact⟨m+nq,World.drewN_drewN _ _ _⟩);have Yu:Bx (Below w.heap.size w (wr.drewN nq)):=bx (by obtain⟨m,e⟩:=Yk.out nq;rw[e];exact below_drewN HB.out _);go_wp2;go_ret;exact⟨by rw[HN.out];rfl,Yu.out⟩
             ·have en:=e0
              go_wp2;go_quiet (fail)
              have Yk:Bx (∀nq,∃m,wr.drewN nq=w2.drewN m):=bx (fun nq=>by obtain⟨m,e⟩:=HW.out;rw[e];exact⟨m+nq,World.drewN_drewN _ _ _⟩);have Yu:Bx (Below w.heap.size w (wr.drewN nq)):=bx (by obtain⟨m,e⟩:=Yk.out nq;rw[e];exact below_drewN HB.out _);go_wp2;go_ret;exact⟨by rw[HN.out];rfl,Yu.out⟩
           ·obtain rfl:k=x.hs.n:=by omega
            have hkI:¬(x.hs.n:Int)<(x.hs.n:Int):=by omega
            have HHE:Bx (x.hs.l=y.hs.l):=bx (by
             have h9:=HQ.out
             rwa [Z15 (by rw[W7.out.1];exact Z00 _),Z15 (by rw[S6.out.1,←C8.out];exact Z00 _)]at h9)
            have Gl:Bx (R=decide (x.fs.l.map FrE.p=y.fs.l.map FrE.p)):=bx (by rw[HR.out];have h6:=Db.out;exact decide_eq_decide.2 ⟨fun h=>h.2.2.2.2.2.2.2.2,fun h=>⟨h6.1,h6.2.1,h6.2.2.1,h6.2.2.2.1,h6.2.2.2.2.1,h6.2.2.2.2.2,Z49 Xj.out,HHE.out,h⟩⟩);have W5:Bx (Below w2.heap.size w2 wr):=bx (by obtain⟨m,e⟩:=HW.out;rw[e];exact below_drewN (Below.refl _ _) m);clear HQ HW hk hk0;go_wp2;clear x7 y7 hkI;have Xm:Bx ((x.fs.l.take 0).map FrE.p=(y.fs.l.take 0).map FrE.p):=bx rfl;obtain⟨w4,rfl⟩:∃w4,w4=wr:=⟨_,rfl⟩
            go_loopw [6] (fun i wr=>∃k:Nat,k≤x.fs.n∧i = .int .i64 (k:Int)∧Bx ((x.fs.l.take k).map FrE.p=(y.fs.l.take k).map FrE.p)∧Bx (Below w2.heap.size w2 wr)) (fun i _=>x.fs.n-(intOf i).toNat)
            case atStart=>exact⟨0,by omega,rfl,Xm,W5⟩
            case round=>
             clear Xm W5;obtain⟨k,hk,rfl,HQ,HW⟩:=hrel;have x8:wr.cell? ⟨g1,8,none⟩=some (.slice x.fs.A x.fs.n x.fs.c):=(HW.out.cell (p:=⟨g1,8,none⟩) Wg.out.1).trans Jp.out.2.2.1;have y8:wr.cell? ⟨g2,8,none⟩=some (.slice y.fs.A y.fs.n y.fs.c):=(HW.out.cell (p:=⟨g2,8,none⟩) Wg.out.2).trans Jp.out.2.2.2;by_cases hk0:k<x.fs.n
             ·have hk1:k<y.fs.n:=by have:=W6.out;omega
              have hkI:(k:Int)<(x.fs.n:Int):=(by omega);have hkI2:(k:Int)<(y.fs.n:Int):=(by omega);obtain⟨pd,fx,hpd,hlfx,Hfx,pp0,pp1⟩:=(Rm.out.2.2.below HW.out (Z00 _)).at_ frCels (k:=k) (by rw[Rm.out.1];exact hk0);have p0:=pp0 _ rfl;have p1:=pp1 0 _ rfl;have p2:=pp1 1 _ rfl;have p3:=pp1 2 _ rfl;simp only[Z22,Nat.reduceAdd]at p1 p2 p3;unfold Sq.v at p2 p3;clear pp0 pp1 hlfx;obtain⟨qd,fy,hqd,hlfy,Hfy,qq0,qq1⟩:=(Wt.out.2.2.below HW.out (Z00 _)).at_ frCels (k:=k) (by rw[Wt.out.1];exact hk1);have q0:=qq0 _ rfl;have q1:=qq1 0 _ rfl;have q2:=qq1 1 _ rfl;have q3:=qq1 2 _ rfl;simp only[Z22,Nat.reduceAdd]at q1 q2 q3;unfold Sq.v at q2 q3;clear qq0 qq1 hlfy;rw[hpd]at x8;rw[hqd]at y8;have Gd:=bx ((HX.out.fr fx (Z16 Hfx.out)).step (w':=wr) (fun k hk=>(HB.out.trans (HW.out.mono HB.out.size)).block k hk) (fun k hk=>Z07 hk (HB.out.trans (HW.out.mono HB.out.size)).size));have C7:=bx ((HY.out.fr fy (Z16 Hfy.out)).step (w':=wr) (fun k hk=>(HB.out.trans (HW.out.mono HB.out.size)).block k hk) (fun k hk=>Z07 hk (HB.out.trans (HW.out.mono HB.out.size)).size));have Qt:Bx (∀Y,Below wr.heap.size wr Y→Y.cell? ⟨g1,8,none⟩=some (.slice (some pd) x.fs.n x.fs.c)∧Y.cell? ⟨g2,8,none⟩=some (.slice (some qd) y.fs.n y.fs.c)∧Y.cell? (pd.add (k*4))=some (.int .i64 fx.tag)∧Y.cell? ⟨(pd.add (k*4)).block,(pd.add (k*4)).off+1,none⟩=some (.int .i64 fx.delta)∧Y.cell? ⟨(pd.add (k*4)).block,(pd.add (k*4)).off+2,none⟩=some (.slice fx.l.A fx.l.n fx.l.c)∧Y.cell? ⟨(pd.add (k*4)).block,(pd.add (k*4)).off+3,none⟩=some (.slice fx.s.A fx.s.n fx.s.c)∧Y.cell? (qd.add (k*4))=some (.int .i64 fy.tag)∧Y.cell? ⟨(qd.add (k*4)).block,(qd.add (k*4)).off+1,none⟩=some (.int .i64 fy.delta)∧Y.cell? ⟨(qd.add (k*4)).block,(qd.add (k*4)).off+2,none⟩=some (.slice fy.l.A fy.l.n fy.l.c)∧Y.cell? ⟨(qd.add (k*4)).block,(qd.add (k*4)).off+3,none⟩=some (.slice fy.s.A fy.s.n fy.s.c)):=bx (fun Y hb=>⟨(hb.cell (World.block_lt_of_cell? _ _ x8)).trans x8,(hb.cell (World.block_lt_of_cell? _ _ y8)).trans y8,(hb.cell (World.block_lt_of_cell? _ _ p0)).trans p0,(hb.cell (World.block_lt_of_cell? _ _ p1)).trans p1,(hb.cell (World.block_lt_of_cell? _ _ p2)).trans p2,(hb.cell (World.block_lt_of_cell? _ _ p3)).trans p3,(hb.cell (World.block_lt_of_cell? _ _ q0)).trans q0,(hb.cell (World.block_lt_of_cell? _ _ q1)).trans q1,(hb.cell (World.block_lt_of_cell? _ _ q2)).trans q2,(hb.cell (World.block_lt_of_cell? _ _ q3)).trans q3⟩);obtain⟨bl,hbl⟩:∃bl,decide (fx.l.l=fy.l.l)=bl:=⟨_,rfl⟩;obtain⟨bs,hbs⟩:∃bs,decide (fx.s.l=fy.s.l)=bs:=⟨_,rfl⟩;have Kw:=bx hbl;have Mx:=bx hbs;clear hbl hbs hpd hqd;go_upto_region 11 with(fail)
              clear p0 p1 p2 p3 q0 q1 q2 q3 x8 y8
              go_cut [7,8] from 100 to 109 (fun v7 v8 wx=>∃(g7 g8:Nat),v7 = .pointer (some ⟨g7,0,none⟩)∧v8 = .pointer (some ⟨g8,0,none⟩)∧Bx (Bk wx g7 77 #[.int .i64 fx.tag,.int .i64 fx.delta,.slice fx.l.A fx.l.n fx.l.c,.slice fx.s.A fx.s.n fx.s.c])∧Bx (Bk wx g8 77 #[.int .i64 fy.tag,.int .i64 fy.delta,.slice fy.l.A fy.l.n fy.l.c,.slice fy.s.A fy.s.n fy.s.c])∧Bx (Below wr.heap.size wr wx))
              case first=>
               refine Y9x (S:=fun w'=>w'.cell? ⟨g1,8,none⟩=some (.slice (some pd) x.fs.n x.fs.c)∧w'.cell? ⟨g2,8,none⟩=some (.slice (some qd) y.fs.n y.fs.c)∧w'.cell? (pd.add (k*4))=some (.int .i64 fx.tag)∧w'.cell? ⟨(pd.add (k*4)).block,(pd.add (k*4)).off+1,none⟩=some (.int .i64 fx.delta)∧w'.cell? ⟨(pd.add (k*4)).block,(pd.add (k*4)).off+2,none⟩=some (.slice fx.l.A fx.l.n fx.l.c)∧w'.cell? ⟨(pd.add (k*4)).block,(pd.add (k*4)).off+3,none⟩=some (.slice fx.s.A fx.s.n fx.s.c)∧w'.cell? (qd.add (k*4))=some (.int .i64 fy.tag)∧w'.cell? ⟨(qd.add (k*4)).block,(qd.add (k*4)).off+1,none⟩=some (.int .i64 fy.delta)∧w'.cell? ⟨(qd.add (k*4)).block,(qd.add (k*4)).off+2,none⟩=some (.slice fy.l.A fy.l.n fy.l.c)∧w'.cell? ⟨(qd.add (k*4)).block,(qd.add (k*4)).off+3,none⟩=some (.slice fy.s.A fy.s.n fy.s.c)) (.tk 0 (.tk 1 (.tk 2 (.tk 3 (.tk 4 (.tk 5 (.tk 6 (.tk 7 (.tk 8 (.tk 9 (.alt 10 (.rn 11 (.rn 12 (.rn 13 .fin))) (.alt 11 (.rn 10 (.rn 12 (.rn 13 .fin))) .non)))))))))))) (by kernel_rfl) (by kernel_rfl) (by kernel_rfl) (fun _ _ _ _ h=>h) (Qt.out _ (below_drewN (Below.refl wr.heap.size wr) 1)) ?_;have Yd:Bx (Below wr.heap.size wr wr.drew):=bx (below_drewN (Below.refl wr.heap.size wr) 1);generalize wr.drew=y0 at Yd ⊢
               iterate 10 (apply SeqW.take;(· rfl);(· (refine Or.inl ⟨?_,?_⟩;(· rfl);(· (intro w hSw;(try dsimp only at hSw);go_simp <;> with_reducible rfl))));simp only[Act.put,Z01,Z02,Z03,Z06,Z04,Z05])
               refine SeqW.both rfl (fun K hK hP=>?_) (SeqW.run rfl (fun K hK hP=>?_))
               ·go_wp2_with fail
                have hka:=Bk.new y0 77 #[.int .i64 0,.int .i64 0,.slice none 0 0,.slice none 0 0];have hbz:=Y9z Yd.out (Z00 _) (.cells #[.int .i64 0,.int .i64 0,.slice none 0 0,.slice none 0 0] 77);have hzl:=Yd.out.size;obtain⟨g7,hg⟩:∃g7,y0.heap.size=g7:=⟨_,rfl⟩;obtain⟨y1,hw⟩:∃y1,y0.alloc (.cells #[.int .i64 0,.int .i64 0,.slice none 0 0,.slice none 0 0] 77)=y1:=⟨_,rfl⟩;rw[hg,hw];rw[hw]at hka hbz;rw[hg]at hka hzl;clear Yd;have Yd:=bx hbz;have Ye:=bx hka;have Y4:Bx (wr.heap.size≤g7):=bx hzl;clear hka hbz hzl hg hw;refine hK.out _ _ (Qt.out _ Yd.out) ?_;clear hK hP K;refine SeqW.run rfl (fun K hK hP=>?_);go_wp2_with fail
                have hka:=Bk.new y1 77 #[.int .i64 0,.int .i64 0,.slice none 0 0,.slice none 0 0];have hbz:=Y9z Yd.out (Z00 _) (.cells #[.int .i64 0,.int .i64 0,.slice none 0 0,.slice none 0 0] 77);have hzl:=Yd.out.size;have ho:=Ye.out.alloc (.cells #[.int .i64 0,.int .i64 0,.slice none 0 0,.slice none 0 0] 77);have hol:=Ye.out.lt;obtain⟨g8,hg⟩:∃g8,y1.heap.size=g8:=⟨_,rfl⟩;obtain⟨y2,hw⟩:∃y2,y1.alloc (.cells #[.int .i64 0,.int .i64 0,.slice none 0 0,.slice none 0 0] 77)=y2:=⟨_,rfl⟩;rw[hg,hw];rw[hw]at hka hbz ho;rw[hg]at hka hzl hol;clear Yd;have Yd:=bx hbz;have Wr:=bx hka;have Co:Bx (wr.heap.size≤g8):=bx hzl;clear Ye;have Ye:=bx ho;have Lm:Bx (g7≠g8):=bx (by omega);clear hka hbz hzl hg hw ho hol;refine hK.out _ _ (Qt.out _ Yd.out) ?_;clear hK hP K;refine SeqW.run rfl (fun K hK hP=>?_);refine wpList_store_row rfl 77 (.tmp 7) (.tmp 104) rfl g7 #[.int .i64 fx.tag,.int .i64 fx.delta,.slice fx.l.A fx.l.n fx.l.c,.slice fx.s.A fx.s.n fx.s.c] rfl rfl 77 #[.int .i64 0,.int .i64 0,.slice none 0 0,.slice none 0 0] Ye.out Y3i rfl (by simp [Value.oneCell']) ?_;refine wpList_nil ?_;have hch:=Y9t y2 g7 #[.int .i64 fx.tag,.int .i64 fx.delta,.slice fx.l.A fx.l.n fx.l.c,.slice fx.s.A fx.s.n fx.s.c];have hbz:=bl_setRow Yd.out Y4.out #[.int .i64 fx.tag,.int .i64 fx.delta,.slice fx.l.A fx.l.n fx.l.c,.slice fx.s.A fx.s.n fx.s.c];have hs:=Ye.out.setRow #[.int .i64 fx.tag,.int .i64 fx.delta,.slice fx.l.A fx.l.n fx.l.c,.slice fx.s.A fx.s.n fx.s.c];have ho:=Wr.out.ch hch (fun e=>by have e:g8=g7:=e;exact Lm.out (e.symm));obtain⟨y3,hw⟩:∃y3,y2.setRow g7 #[.int .i64 fx.tag,.int .i64 fx.delta,.slice fx.l.A fx.l.n fx.l.c,.slice fx.s.A fx.s.n fx.s.c]=y3:=⟨_,rfl⟩;rw[hw];rw[hw]at hbz hs ho;clear Yd Ye Wr hch hw;have Yd:=bx hbz;have Ye:=bx hs;have Wr:=bx ho;clear hbz hs ho;refine hK.out _ _ (Qt.out _ Yd.out) ?_;clear hK hP K;refine SeqW.run rfl (fun K hK hP=>?_);refine wpList_store_row rfl 77 (.tmp 8) (.tmp 109) rfl g8 #[.int .i64 fy.tag,.int .i64 fy.delta,.slice fy.l.A fy.l.n fy.l.c,.slice fy.s.A fy.s.n fy.s.c] rfl rfl 77 #[.int .i64 0,.int .i64 0,.slice none 0 0,.slice none 0 0] Wr.out Y3i rfl (by simp [Value.oneCell']) ?_;refine wpList_nil ?_;have hch:=Y9t y3 g8 #[.int .i64 fy.tag,.int .i64 fy.delta,.slice fy.l.A fy.l.n fy.l.c,.slice fy.s.A fy.s.n fy.s.c];have hbz:=bl_setRow Yd.out Co.out #[.int .i64 fy.tag,.int .i64 fy.delta,.slice fy.l.A fy.l.n fy.l.c,.slice fy.s.A fy.s.n fy.s.c];have hs:=Wr.out.setRow #[.int .i64 fy.tag,.int .i64 fy.delta,.slice fy.l.A fy.l.n fy.l.c,.slice fy.s.A fy.s.n fy.s.c];have ho:=Ye.out.ch hch (fun e=>by have e:g7=g8:=e;exact Lm.out (e));obtain⟨y4,hw⟩:∃y4,y3.setRow g8 #[.int .i64 fy.tag,.int .i64 fy.delta,.slice fy.l.A fy.l.n fy.l.c,.slice fy.s.A fy.s.n fy.s.c]=y4:=⟨_,rfl⟩;rw[hw];rw[hw]at hbz hs ho;clear Yd Ye Wr hch hw;have Yd:=bx hbz;have Wr:=bx hs;have Ye:=bx ho;clear hbz hs ho;refine hK.out _ _ (Qt.out _ Yd.out) ?_;clear hK hP K;refine SeqW.done ?_
                (try simp only[Act.put,Z01,Z02,Z03])
                go_wp2
                go_meet
                exact⟨g7,g8,rfl,rfl,Ye,Wr,Yd⟩
               ·go_wp2_with fail
                have hka:=Bk.new y0 77 #[.int .i64 0,.int .i64 0,.slice none 0 0,.slice none 0 0];have hbz:=Y9z Yd.out (Z00 _) (.cells #[.int .i64 0,.int .i64 0,.slice none 0 0,.slice none 0 0] 77);have hzl:=Yd.out.size;obtain⟨g8,hg⟩:∃g8,y0.heap.size=g8:=⟨_,rfl⟩;obtain⟨y1,hw⟩:∃y1,y0.alloc (.cells #[.int .i64 0,.int .i64 0,.slice none 0 0,.slice none 0 0] 77)=y1:=⟨_,rfl⟩;rw[hg,hw];rw[hw]at hka hbz;rw[hg]at hka hzl;clear Yd;have Yd:=bx hbz;have Wr:=bx hka;have Co:Bx (wr.heap.size≤g8):=bx hzl;clear hka hbz hzl hg hw;refine hK.out _ _ (Qt.out _ Yd.out) ?_;clear hK hP K;refine SeqW.run rfl (fun K hK hP=>?_);go_wp2_with fail
                have hka:=Bk.new y1 77 #[.int .i64 0,.int .i64 0,.slice none 0 0,.slice none 0 0];have hbz:=Y9z Yd.out (Z00 _) (.cells #[.int .i64 0,.int .i64 0,.slice none 0 0,.slice none 0 0] 77);have hzl:=Yd.out.size;have ho:=Wr.out.alloc (.cells #[.int .i64 0,.int .i64 0,.slice none 0 0,.slice none 0 0] 77);have hol:=Wr.out.lt;obtain⟨g7,hg⟩:∃g7,y1.heap.size=g7:=⟨_,rfl⟩;obtain⟨y2,hw⟩:∃y2,y1.alloc (.cells #[.int .i64 0,.int .i64 0,.slice none 0 0,.slice none 0 0] 77)=y2:=⟨_,rfl⟩;rw[hg,hw];rw[hw]at hka hbz ho;rw[hg]at hka hzl hol;clear Yd;have Yd:=bx hbz;have Ye:=bx hka;have Y4:Bx (wr.heap.size≤g7):=bx hzl;clear Wr;have Wr:=bx ho;have Lm:Bx (g7≠g8):=bx (by omega);clear hka hbz hzl hg hw ho hol;refine hK.out _ _ (Qt.out _ Yd.out) ?_;clear hK hP K;refine SeqW.run rfl (fun K hK hP=>?_);refine wpList_store_row rfl 77 (.tmp 7) (.tmp 104) rfl g7 #[.int .i64 fx.tag,.int .i64 fx.delta,.slice fx.l.A fx.l.n fx.l.c,.slice fx.s.A fx.s.n fx.s.c] rfl rfl 77 #[.int .i64 0,.int .i64 0,.slice none 0 0,.slice none 0 0] Ye.out Y3i rfl (by simp [Value.oneCell']) ?_;refine wpList_nil ?_;have hch:=Y9t y2 g7 #[.int .i64 fx.tag,.int .i64 fx.delta,.slice fx.l.A fx.l.n fx.l.c,.slice fx.s.A fx.s.n fx.s.c];have hbz:=bl_setRow Yd.out Y4.out #[.int .i64 fx.tag,.int .i64 fx.delta,.slice fx.l.A fx.l.n fx.l.c,.slice fx.s.A fx.s.n fx.s.c];have hs:=Ye.out.setRow #[.int .i64 fx.tag,.int .i64 fx.delta,.slice fx.l.A fx.l.n fx.l.c,.slice fx.s.A fx.s.n fx.s.c];have ho:=Wr.out.ch hch (fun e=>by have e:g8=g7:=e;exact Lm.out (e.symm));obtain⟨y3,hw⟩:∃y3,y2.setRow g7 #[.int .i64 fx.tag,.int .i64 fx.delta,.slice fx.l.A fx.l.n fx.l.c,.slice fx.s.A fx.s.n fx.s.c]=y3:=⟨_,rfl⟩;rw[hw];rw[hw]at hbz hs ho;clear Yd Ye Wr hch hw;have Yd:=bx hbz;have Ye:=bx hs;have Wr:=bx ho;clear hbz hs ho;refine hK.out _ _ (Qt.out _ Yd.out) ?_;clear hK hP K;refine SeqW.run rfl (fun K hK hP=>?_);refine wpList_store_row rfl 77 (.tmp 8) (.tmp 109) rfl g8 #[.int .i64 fy.tag,.int .i64 fy.delta,.slice fy.l.A fy.l.n fy.l.c,.slice fy.s.A fy.s.n fy.s.c] rfl rfl 77 #[.int .i64 0,.int .i64 0,.slice none 0 0,.slice none 0 0] Wr.out Y3i rfl (by simp [Value.oneCell']) ?_;refine wpList_nil ?_;have hch:=Y9t y3 g8 #[.int .i64 fy.tag,.int .i64 fy.delta,.slice fy.l.A fy.l.n fy.l.c,.slice fy.s.A fy.s.n fy.s.c];have hbz:=bl_setRow Yd.out Co.out #[.int .i64 fy.tag,.int .i64 fy.delta,.slice fy.l.A fy.l.n fy.l.c,.slice fy.s.A fy.s.n fy.s.c];have hs:=Wr.out.setRow #[.int .i64 fy.tag,.int .i64 fy.delta,.slice fy.l.A fy.l.n fy.l.c,.slice fy.s.A fy.s.n fy.s.c];have ho:=Ye.out.ch hch (fun e=>by have e:g7=g8:=e;exact Lm.out (e));obtain⟨y4,hw⟩:∃y4,y3.setRow g8 #[.int .i64 fy.tag,.int .i64 fy.delta,.slice fy.l.A fy.l.n fy.l.c,.slice fy.s.A fy.s.n fy.s.c]=y4:=⟨_,rfl⟩;rw[hw];rw[hw]at hbz hs ho;clear Yd Ye Wr hch hw;have Yd:=bx hbz;have Wr:=bx hs;have Ye:=bx ho;clear hbz hs ho;refine hK.out _ _ (Qt.out _ Yd.out) ?_;clear hK hP K;refine SeqW.done ?_
                (try simp only[Act.put,Z01,Z02,Z03])
                go_wp2
                go_meet
                exact⟨g7,g8,rfl,rfl,Ye,Wr,Yd⟩
              case rest=>
              obtain⟨g7,g8,rfl,rfl,Ye,Wr,Yd⟩:=hcut;have Sh:Bx (Below w2.heap.size w2 wc):=bx (HW.out.trans (Yd.out.mono HW.out.size));have Yu:Bx (Below w.heap.size w wc):=bx (HB.out.trans (Sh.out.mono HB.out.size))
              have Qr:Bx (∀nq,Calls Tryd.prog 44 #[.slice fx.l.A fx.l.n fx.l.c,.slice fy.l.A fy.l.n fy.l.c] (wc.drewN nq) fun e w'=>e = .returned (.bool bl)∧∃q,w'=wc.drewN q):=bx (fun nq=>by
               rw[←Kw.out];have a:=Y1v Gd.out.l Yd.out;have b:=Y1v C7.out.l Yd.out
               exact(Y5g _ _ _ _ _ _ _ _ _ a.1 b.1 a.2.1 (a.2.2.drewN nq) (b.2.2.drewN nq)).mono (fun e w' h=>⟨h.1,by obtain⟨q,hq⟩:=h.2;exact⟨nq+q,by rw[hq];exact World.drewN_drewN _ _ _⟩⟩))
              have Yt:Bx (∀nq,Calls Tryd.prog 44 #[.slice fx.s.A fx.s.n fx.s.c,.slice fy.s.A fy.s.n fy.s.c] (wc.drewN nq) fun e w'=>e = .returned (.bool bs)∧∃q,w'=wc.drewN q):=bx (fun nq=>by
               rw[←Mx.out];have a:=Y1v Gd.out.s Yd.out;have b:=Y1v C7.out.s Yd.out
               exact(Y5g _ _ _ _ _ _ _ _ _ a.1 b.1 a.2.1 (a.2.2.drewN nq) (b.2.2.drewN nq)).mono (fun e w' h=>⟨h.1,by obtain⟨q,hq⟩:=h.2;exact⟨nq+q,by rw[hq];exact World.drewN_drewN _ _ _⟩⟩))
              have p0:wc.cell? ⟨g7,0,none⟩=some (.int .i64 fx.tag):=(Ye.out.cell 0).trans rfl;have p1:wc.cell? ⟨g7,1,none⟩=some (.int .i64 fx.delta):=(Ye.out.cell 1).trans rfl;have p2:wc.cell? ⟨g7,2,none⟩=some (.slice fx.l.A fx.l.n fx.l.c):=(Ye.out.cell 2).trans rfl;have p3:wc.cell? ⟨g7,3,none⟩=some (.slice fx.s.A fx.s.n fx.s.c):=(Ye.out.cell 3).trans rfl;have q0:wc.cell? ⟨g8,0,none⟩=some (.int .i64 fy.tag):=(Wr.out.cell 0).trans rfl;have q1:wc.cell? ⟨g8,1,none⟩=some (.int .i64 fy.delta):=(Wr.out.cell 1).trans rfl;have q2:wc.cell? ⟨g8,2,none⟩=some (.slice fy.l.A fy.l.n fy.l.c):=(Wr.out.cell 2).trans rfl;have q3:wc.cell? ⟨g8,3,none⟩=some (.slice fy.s.A fy.s.n fy.s.c):=(Wr.out.cell 3).trans rfl;clear Yd Qt;go_step;by_cases ht:fx.tag=fy.tag
              ·rw[ht]at p0
               by_cases hd:fx.delta=fy.delta
               ·rw[hd]at p1
                cases bl with
                | false=>
                 have HN:Bx (R=false):=bx (by rw[Gl.out];exact Z48 (Y7w Hfx.out Hfy.out (fun h=>of_decide_eq_false Kw.out (Y4n.1 h).2.2.1)));clear ht hd HQ;go_wp2_with (go_at_call 44;refine(Qr.out 0).mono ?_;rintro e w5 ⟨rfl,q5,rfl⟩)
                 go_ret;exact⟨by rw[HN.out];rfl,below_drewN Yu.out _⟩
                | true=>
                 cases bs with
                 | false=>
                  have HN:Bx (R=false):=bx (by rw[Gl.out];exact Z48 (Y7w Hfx.out Hfy.out (fun h=>of_decide_eq_false Mx.out (Y4n.1 h).2.2.2)));clear ht hd HQ
                  go_wp2_with (first
                   | (go_at_call 44;refine(Yt.out q5).mono ?_;rintro e w6 ⟨rfl,q4,rfl⟩)
                   | (go_at_call 44;refine(Qr.out 0).mono ?_;rintro e w5 ⟨rfl,q5,rfl⟩))
                  go_ret;exact⟨by rw[HN.out];rfl,below_drewN Yu.out _⟩
                 | true=>
                  have Xq:=bx (Y6r HQ.out Hfx.out Hfy.out (Y4n.2 ⟨ht,hd,Z49 Kw.out,Z49 Mx.out⟩));clear ht hd HQ
                  go_wp2_with (first
                   | (go_at_call 44;refine(Yt.out q5).mono ?_;rintro e w6 ⟨rfl,q4,rfl⟩)
                   | (go_at_call 44;refine(Qr.out 0).mono ?_;rintro e w5 ⟨rfl,q5,rfl⟩))
                  go_roundw
                  case rel=>exact⟨k+1,by omega,by go_num,Xq,bx (below_drewN Sh.out _)⟩
                  case measure=>simp [intOf];omega
               ·have hdb:(fx.delta != fy.delta)=true:=by simpa using hd
                have HN:Bx (R=false):=bx (by rw[Gl.out];exact Z48 (Y7w Hfx.out Hfy.out (fun h=>hd (Y4n.1 h).2.1)));clear hd ht HQ;go_wp2;go_ret;exact⟨by rw[HN.out];rfl,Yu.out⟩
              ·have htb:(fx.tag != fy.tag)=true:=by simpa using ht
               have HN:Bx (R=false):=bx (by rw[Gl.out];exact Z48 (Y7w Hfx.out Hfy.out (fun h=>ht (Y4n.1 h).1)));clear ht HQ;go_wp2;go_ret;exact⟨by rw[HN.out];rfl,Yu.out⟩
             ·obtain rfl:k=x.fs.n:=by omega
              have hkI:¬(x.fs.n:Int)<(x.fs.n:Int):=(by omega);have HN:Bx (R=true):=bx (by have h9:=HQ.out;rw[Z15 (by rw[Rm.out.1];exact Z00 _),Z15 (by rw[Wt.out.1,←W6.out];exact Z00 _)]at h9;rw[Gl.out];exact Z47 h9);have Yu:Bx (Below w.heap.size w wr):=bx (HB.out.trans (HW.out.mono HB.out.size));clear HQ;go_wp2;go_ret;exact⟨by rw[HN.out];rfl,Yu.out⟩
         ·have efb:((x.fs.n:Int) != (y.fs.n:Int))=true:=by simp;omega
          have Zi:Bx (R=false):=bx (by rw[HR.out];exact Z48 (fun h=>ef (by have h2:=congrArg List.length h.2.2.2.2.2.2.2.2;rw[Z17,Z17,Rm.out.1,Wt.out.1]at h2;exact h2)));clear ef eh
          go_enter Tryd.func18,Tryd.ntmps18
          go_wp2_with (go_at_call 43;refine(Ws.out 0).mono ?_;rintro e w3 ⟨rfl,q,rfl⟩)
          go_ret;exact⟨by rw[Zi.out];rfl,below_drewN HB.out _⟩
        ·have ehb:((x.hs.n:Int) != (y.hs.n:Int))=true:=by simp;omega
         have Zi:Bx (R=false):=bx (by rw[HR.out];exact Z48 (fun h=>eh (by have h2:=congrArg List.length h.2.2.2.2.2.2.2.1;rw[W7.out.1,S6.out.1]at h2;exact h2)));clear eh
         go_enter Tryd.func18,Tryd.ntmps18
         go_wp2_with (go_at_call 43;refine(Ws.out 0).mono ?_;rintro e w3 ⟨rfl,q,rfl⟩)
         go_ret;exact⟨by rw[Zi.out];rfl,below_drewN HB.out _⟩
      ·have hb:(x.locals==y.locals)=false:=by simpa using e5
       have hb2:(x.locals != y.locals)=true:=(by simpa using e5);have hb3:(!x.locals==y.locals)=true:=(by simpa using e5);have Zi:Bx (R=false):=bx (by rw[HR.out];exact Z48 (fun h=>e5 h.2.2.2.2.2.1));clear e0 e1 e2 e3 e4 e5
       go_enter Tryd.func18,Tryd.ntmps18
       go_wp2;go_ret;exact⟨by rw[Zi.out];rfl,HB.out⟩
     ·have hb:(x.stack==y.stack)=false:=by simpa using e4
      have hb2:(x.stack != y.stack)=true:=(by simpa using e4);have hb3:(!x.stack==y.stack)=true:=(by simpa using e4);have Zi:Bx (R=false):=bx (by rw[HR.out];exact Z48 (fun h=>e4 h.2.2.2.2.1));clear e0 e1 e2 e3 e4
      go_enter Tryd.func18,Tryd.ntmps18
      go_wp2;go_ret;exact⟨by rw[Zi.out];rfl,HB.out⟩
    ·have hb:(x.there==y.there)=false:=by simpa using e3
     have hb2:(x.there != y.there)=true:=(by simpa using e3);have hb3:(!x.there==y.there)=true:=(by simpa using e3);have Zi:Bx (R=false):=bx (by rw[HR.out];exact Z48 (fun h=>e3 h.2.2.2.1));clear e0 e1 e2 e3
     go_enter Tryd.func18,Tryd.ntmps18
     go_wp2;go_ret;exact⟨by rw[Zi.out];rfl,HB.out⟩
   ·have hb:(x.desc==y.desc)=false:=by simpa using e2
    have hb2:(x.desc != y.desc)=true:=(by simpa using e2);have hb3:(!x.desc==y.desc)=true:=(by simpa using e2);have Zi:Bx (R=false):=bx (by rw[HR.out];exact Z48 (fun h=>e2 h.2.2.1));clear e0 e1 e2
    go_enter Tryd.func18,Tryd.ntmps18
    go_wp2;go_ret;exact⟨by rw[Zi.out];rfl,HB.out⟩
  ·have hb:(x.name==y.name)=false:=by simpa using e1
   have hb2:(x.name != y.name)=true:=(by simpa using e1);have hb3:(!x.name==y.name)=true:=(by simpa using e1);have Zi:Bx (R=false):=bx (by rw[HR.out];exact Z48 (fun h=>e1 h.2.1));clear e0 e1
   go_enter Tryd.func18,Tryd.ntmps18
   go_wp2;go_ret;exact⟨by rw[Zi.out];rfl,HB.out⟩
 ·have hb:(x.access==y.access)=false:=by simpa using e0
  have hb2:(x.access != y.access)=true:=(by simpa using e0);have hb3:(!x.access==y.access)=true:=(by simpa using e0);have Zi:Bx (R=false):=bx (by rw[HR.out];exact Z48 (fun h=>e0 h.1));clear e0
  go_enter Tryd.func18,Tryd.ntmps18
  go_wp2;go_ret;exact⟨by rw[Zi.out];rfl,HB.out⟩
end Go.Proofs.YtpmfiegfbmamiaaDoor
