/- Parts: Contracts: (image.pool).attrs and members. Contracts of image's source: fail, num, part, many. Contract of image's source: attrs. Contract of image's source: members. Regions that draw their order, read and call quietly, and end in operations that make memory: the head is taken first, in the order of the text, in every world of a row of worlds. Plain: how great what the maker makes can be. append(v, s...), s of another slice type with the same elements. Nothing here speaks of the program. Contract: octet.PutBig of one to eight bytes. What putting numbers leaves. A region that draws its order, walked by what each operation leaves, whatever the order: each operation's answer owns blocks, and one other operation uses them up. Nothing here speaks of the program. Arguments that are rows of rows of bytes, opened. A slice within another datum, opened. Nothing here speaks of the program. Arguments: an image by value, opened. Arguments: a class by value, opened. Contract: samovarref02.Same (for the seats behind the first). Contract: samovarref02.Same, in a region that draws: it reads alone. -/
import Derived.Test.YtpmfiegfbmamiaaDoorPm4
import Derived.Test.YtpmfiegfbmamiaaDoorPm3
import Derived.Test.YtpmfiegfbmamiaaDoorPm2
import Derived.Deep.DeepCutAuto
import Derived.Deep.CutBlock
import Derived.Deep.RegionHeld
import Derived.Deep.QuietTactic
import Derived.BigQuiet
import Derived.Test.YtpmfiegfbmamiaaDoorPm1
import Derived.Deep.RegionWith
import Derived.Deep.RegionHeld3
import Derived.Deep.RegionLaw
import Derived.Outline
import Derived.ProofKit
import Derived.OpenShut
import Derived.ChangeOld
import Derived.Below
import Derived.Deep.Slices
import Derived.Deep.Fields
import Derived.Lib.SmallJoins
namespace Go.Proofs.YtpmfiegfbmamiaaDoor
set_option maxRecDepth 100000
set_option maxHeartbeats 4000000
open Go.RowKit
def okE (L:List Cst) (y:AtE):Bool:=attOk L y.p
theorem X9q (L:List Cst) (M:List AtE):attsOk L (M.map AtE.p)=(M.all (okE L)&&decide (M.length≤64)):=by unfold attsOk;rw[List.all_map,Z17];rfl
theorem Y4j {L:List Cst} {M:List AtE} {k:Nat} {x:AtE} (hx:M[k]? = some x) (h:okE L x=false):attsOk L (M.map AtE.p)=false:=by
 rw[X9q,(List.all_eq_false).2 ⟨x,Z16 hx,by simpa using h⟩];rfl
theorem Y2y {α:Type} {f:α→Bool} {M:List α} {k:Nat} {x:α} (h:(M.take k).all f=true) (hx:M[k]? = some x) (hf:f x=true):(M.take (k+1)).all f=true:=by rw[Z40,hx,List.all_append,h];simp [hf]
theorem Y1g {α:Type} {f:α→Bool} {M:List α} {k:Nat} (h:(M.take k).all f=true) (hk:M.length=k):M.all f=true:=by
 rw[Z15 (by omega)]at h;exact h
theorem Y9o (A:Option Addr) (n c:Nat) (L:List Cst) (Aa:Option Addr) (na ca:Nat) (M:List AtE) (w:World) (hn:L.length=n) (hb:(n:Int)≤9223372036854775807) (hr:RS cstC w w.heap.size A L) (hm:M.length=na) (hmb:(na:Int)≤9223372036854775807) (ha:RA w w.heap.size Aa M) :
  Calls Tryd.prog 36 #[.slice A n c,.slice Aa na ca] w fun e w'=>e = .returned (.bool (attsOk L (M.map AtE.p)))∧Below w.heap.size w w':=by
 have HL:=bx hn;have HR:=bx hr;have HM:=bx hm;have HA:=bx ha;obtain⟨R,hR⟩:∃R,attsOk L (M.map AtE.p)=R:=⟨_,rfl⟩;rw[hR];have Zi:=bx hR;have Xm:Bx ((M.take 0).all (okE L)=true):=bx rfl;clear hn hr hm ha hR
 go_enter Tryd.func36,Tryd.ntmps36
 go_wp2
 go_loopw [9] (fun iv wx=>∃k:Nat,k≤na∧iv = .int .i64 (k:Int)∧Bx ((M.take k).all (okE L)=true)∧Bx (Below w.heap.size w wx)) (fun i _=>na-(intOf i).toNat)
 case atStart=>exact⟨0,by omega,rfl,Xm,bx (Below.refl _ _)⟩
 case round=>
  clear Xm;obtain⟨k,hk,rfl,HQ,HB⟩:=hrel;by_cases hkn:k<na
  ·have hkI:(k:Int)<(na:Int):=by omega
   obtain⟨ad,x,rfl,_,HX,p0,p1,Ku⟩:=(HA.out.below HB.out (Z00 _)).at_ (k:=k) (by rw[HM.out];exact hkn);have hxl:(x.s.n:Int)≤9223372036854775807:=by have:=Ku.out.2.1;have:=Ku.out.2.2.1;omega
   have G3:=bx Ku.out.1;obtain⟨C,hC⟩:∃C,wr.heap.size=C:=⟨_,rfl⟩;have Vm:=bx (Bk.newAt wr 41 #[.int .i64 x.name,.slice x.s.A x.s.n x.s.c] hC);have Xj:=bx (Y9z HB.out (Z00 _) (.cells #[.int .i64 x.name,.slice x.s.A x.s.n x.s.c] 41));have HC:=bx hC;clear hC;go_upto_region 4 with(fail)
   rw[HC.out];generalize wr.alloc (.cells #[.int .i64 x.name,.slice x.s.A x.s.n x.s.c] 41)=wc at Vm Xj ⊢;clear p0 p1 HC Ku;have c0:wc.cell? ⟨C,0,none⟩=some (.int .i64 x.name):=(Vm.out.cell 0).trans rfl;have c1:wc.cell? ⟨C,1,none⟩=some (.slice x.s.A x.s.n x.s.c):=(Vm.out.cell 1).trans rfl;have Qj:Bx (RS cstC wc wc.heap.size A L):=bx (HR.out.step Xj.out);cases hq:decide (tagP L x.name=1) with
   | false=>
    have HN:Bx (R=false):=bx (by rw[←Zi.out];exact Y4j HX.out (by show (decide (tagP L x.name=1)&&_)=false;rw[hq];rfl));have Gi:=bx hq;clear hq;go_wp2_with (go_at_call 34;refine(Y9g _ n _ L _ 1 wc HL.out hb (by decide) Qj.out).mono ?_;rintro e w' ⟨rfl,rfl⟩;rw[Gi.out])
    go_ret;exact⟨by rw[HN.out];rfl,Xj.out⟩
   | true=>
    have Gi:=bx hq;by_cases hd:x.s.n≤32768
    ·have hdI:¬(32768:Int)<(x.s.n:Int):=by omega
     have Xq:=bx (Y2y HQ.out HX.out (by show (decide (tagP L x.name=1)&&decide (x.s.l.length≤32768))=true;rw[hq,G3.out,Z47 hd];rfl));clear hq;go_wp2_with (go_at_call 34;refine(Y9g _ n _ L _ 1 wc HL.out hb (by decide) Qj.out).mono ?_;rintro e w' ⟨rfl,rfl⟩;rw[Gi.out])
     go_roundw
     case rel=>exact⟨k+1,by omega,by go_num,Xq,Xj⟩
     case measure=>simp [intOf];omega
    ·have hdI:(32768:Int)<(x.s.n:Int):=by omega
     have HN:Bx (R=false):=bx (by rw[←Zi.out];exact Y4j HX.out (by show (_&&decide (x.s.l.length≤32768))=false;rw[G3.out,Z48 hd,Bool.and_false]));clear hq;go_wp2_with (go_at_call 34;refine(Y9g _ n _ L _ 1 wc HL.out hb (by decide) Qj.out).mono ?_;rintro e w' ⟨rfl,rfl⟩;rw[Gi.out])
     go_ret;exact⟨by rw[HN.out];rfl,Xj.out⟩
  ·obtain rfl:na=k:=by omega
   have hkI:¬(na:Int)<(na:Int):=(by omega);have HN:Bx (R=decide (na≤64)):=bx (by rw[←Zi.out,X9q,Y1g HQ.out HM.out,Z25,HM.out]);by_cases h64:na≤64
   ·have hI:(na:Int)≤64:=by omega
    go_wp2;go_ret;exact⟨by rw[HN.out,Z47 h64];try rfl,HB.out⟩
   ·have hI:¬(na:Int)≤64:=by omega
    go_wp2;go_ret;exact⟨by rw[HN.out,Z48 h64];try rfl,HB.out⟩
theorem RM.at_ {w:World} {B:Nat} {A:Option Addr} {L:List MmE} (h:RM w B A L) {k:Nat} (hk:k<L.length) :
  ∃ad x,A=some ad∧ad.block<B∧Bx (L[k]? = some x)∧w.cell? (ad.add (k*4))=some (.int .i64 x.access)∧w.cell? ⟨(ad.add (k*4)).block,(ad.add (k*4)).off+1,none⟩=some (.int .i64 x.name)∧w.cell? ⟨(ad.add (k*4)).block,(ad.add (k*4)).off+2,none⟩=some (.int .i64 x.desc) ∧
   w.cell? ⟨(ad.add (k*4)).block,(ad.add (k*4)).off+3,none⟩=some (.slice x.A x.n x.c)∧Bx (MmB w B x):=by
 obtain⟨ad,x,hA,hlt,hx,hc,hcs⟩:=h.1.at_ memCels hk;exact⟨ad,x,hA,hlt,bx hx.out,hc _ rfl,hcs 0 _ rfl,hcs 1 _ rfl,hcs 2 _ rfl,bx (h.2 x (Z16 hx.out))⟩
def okM (L:List Cst) (y:MmE):Bool:=memOk L y.p
theorem X8z (L:List Cst) (M:List MmE):memsOk L (M.map MmE.p)=(M.all (okM L)&&decide (M.length≤64)):=by unfold memsOk;rw[List.all_map,Z17];rfl
theorem X7h {L:List Cst} {M:List MmE} {k:Nat} {x:MmE} (hx:M[k]? = some x) (h:okM L x=false):memsOk L (M.map MmE.p)=false:=by
 rw[X8z,(List.all_eq_false).2 ⟨x,Z16 hx,by simpa using h⟩];rfl
theorem okM_E (L:List Cst) (x:MmE):okM L x=(u2P x.access&&decide (tagP L x.name=1)&&decide (tagP L x.desc=1)&&attsOk L (x.L.map AtE.p)):=rfl
theorem Y2w (a:Int):[a].all u2P=u2P a:=by simp
theorem Y9q (A:Option Addr) (n c:Nat) (L:List Cst) (Aa:Option Addr) (na ca:Nat) (M:List MmE) (w:World) (hn:L.length=n) (hb:(n:Int)≤9223372036854775807) (hr:RS cstC w w.heap.size A L) (hm:M.length=na) (hmb:(na:Int)≤9223372036854775807) (ha:RM w w.heap.size Aa M) :
  Calls Tryd.prog 35 #[.slice A n c,.slice Aa na ca] w fun e w'=>e = .returned (.bool (memsOk L (M.map MmE.p)))∧Below w.heap.size w w':=by
 have HL:=bx hn;have HR:=bx hr;have HM:=bx hm;have HA:=bx ha;obtain⟨R,hR⟩:∃R,memsOk L (M.map MmE.p)=R:=⟨_,rfl⟩;rw[hR];have Zi:=bx hR;have Xm:Bx ((M.take 0).all (okM L)=true):=bx rfl;clear hn hr hm ha hR
 go_enter Tryd.func35,Tryd.ntmps35
 go_wp2
 go_loopw [9] (fun iv wx=>∃k:Nat,k≤na∧iv = .int .i64 (k:Int)∧Bx ((M.take k).all (okM L)=true)∧Bx (Below w.heap.size w wx)) (fun i _=>na-(intOf i).toNat)
 case atStart=>exact⟨0,by omega,rfl,Xm,bx (Below.refl _ _)⟩
 case round=>
  clear Xm;obtain⟨k,hk,rfl,HQ,HB⟩:=hrel;by_cases hkn:k<na
  ·have hkI:(k:Int)<(na:Int):=by omega
   obtain⟨ad,x,rfl,_,HX,p0,p1,p2,p3,Ku⟩:=(HA.out.below HB.out (Z00 _)).at_ (k:=k) (by rw[HM.out];exact hkn);obtain⟨C,hC⟩:∃C,wr.heap.size=C:=⟨_,rfl⟩;have S1:=bx (HA.out.2 x (Z16 HX.out));have Yi:=bx (Bk.newAt wr 43 #[.int .i64 x.access,.int .i64 x.name,.int .i64 x.desc,.slice x.A x.n x.c] hC);have Qq:=bx (Y9z HB.out (Z00 _) (.cells #[.int .i64 x.access,.int .i64 x.name,.int .i64 x.desc,.slice x.A x.n x.c] 43));have HC:=bx hC;clear hC;go_upto_region 4 with(fail)
   rw[HC.out];generalize wr.alloc (.cells #[.int .i64 x.access,.int .i64 x.name,.int .i64 x.desc,.slice x.A x.n x.c] 43)=wb at Yi Qq ⊢;clear p0 p1 p2 p3 HC;have Vm:=bx (Yi.out.alloc (.cells #[.int .i64 x.access] 3));have Xj:=bx (Y9z Qq.out (Z00 _) (.cells #[.int .i64 x.access] 3));have Qi:Bx (RL iV (wb.alloc (.cells #[.int .i64 x.access] 3)) (wb.alloc (.cells #[.int .i64 x.access] 3)).heap.size (some ⟨wb.heap.size,0,none⟩) [x.access]):=bx (RL.top (RL.freshe wb x.access rfl _));have b0:wb.cell? ⟨C,0,none⟩=some (.int .i64 x.access):=(Yi.out.cell 0).trans rfl;have Qj:Bx (RS cstC (wb.alloc (.cells #[.int .i64 x.access] 3)) (wb.alloc (.cells #[.int .i64 x.access] 3)).heap.size A L):=bx (HR.out.step Xj.out);have Cv:Bx (RA (wb.alloc (.cells #[.int .i64 x.access] 3)) (wb.alloc (.cells #[.int .i64 x.access] 3)).heap.size x.A x.L):=bx ((S1.out.2.2.2.below Xj.out (Z00 _)).more Xj.out.size);have c1:(wb.alloc (.cells #[.int .i64 x.access] 3)).cell? ⟨C,1,none⟩=some (.int .i64 x.name):=(Vm.out.cell 1).trans rfl;have c2:(wb.alloc (.cells #[.int .i64 x.access] 3)).cell? ⟨C,2,none⟩=some (.int .i64 x.desc):=(Vm.out.cell 2).trans rfl;have c3:(wb.alloc (.cells #[.int .i64 x.access] 3)).cell? ⟨C,3,none⟩=some (.slice x.A x.n x.c):=(Vm.out.cell 3).trans rfl;have hxn:(x.n:Int)≤9223372036854775807:=by have:=Ku.out.2.1;have:=Ku.out.2.2.1;omega
   have Ca:=bx Ku.out.1;generalize hwc:wb.alloc (.cells #[.int .i64 x.access] 3)=wc at Vm Xj Qi Qj Cv c1 c2 c3;have Sh:=bx hwc;clear hwc Ku;obtain⟨q1,hq1⟩:∃q,u2P x.access=q:=⟨_,rfl⟩;obtain⟨q2,hq2⟩:∃q,decide (tagP L x.name=1)=q:=⟨_,rfl⟩;obtain⟨q3,hq3⟩:∃q,decide (tagP L x.desc=1)=q:=⟨_,rfl⟩;obtain⟨q4,hq4⟩:∃q,attsOk L (x.L.map AtE.p)=q:=⟨_,rfl⟩;have HU:=bx hq1;have Bz:=bx hq2;have Pc:=bx hq3;have Nf:=bx hq4;have Qk:Bx (okM L x=(q1&&q2&&q3&&q4)):=bx (by rw[okM_E,hq1,hq2,hq3,hq4]);have Xn:Bx (okM L x=false→R=false):=bx (fun h=>by rw[←Zi.out];exact X7h HX.out h);clear hq1 hq2 hq3 hq4;cases q1 with
   | false=>
    have HN:=bx (Xn.out (by rw[Qk.out];simp))
    go_wp2_with (first
    | (go_at_call 32;rw[Sh.out];refine(Y8z _ 1 1 [x.access] wc rfl (by decide) Qi.out).mono ?_;rintro e w' ⟨rfl,rfl⟩;rw[Y2w,HU.out])
    | (go_at_call 34;refine(Y9g _ n _ L _ 1 wc HL.out hb (by decide) Qj.out).mono ?_;rintro e w' ⟨rfl,rfl⟩;first | rw[Bz.out] | rw[Pc.out])
    | (go_at_call 36;refine(Y9o _ n _ L _ x.n _ x.L wc HL.out hb Qj.out Ca.out hxn Cv.out).mono ?_;rintro e w5 ⟨rfl,hb5⟩;have Za:=bx hb5;clear hb5;rw[Nf.out]))
    go_ret;exact⟨by rw[HN.out];rfl,Xj.out⟩
   | true=>
    cases q2 with
    | false=>
     have HN:=bx (Xn.out (by rw[Qk.out];simp))
     go_wp2_with (first
    | (go_at_call 32;rw[Sh.out];refine(Y8z _ 1 1 [x.access] wc rfl (by decide) Qi.out).mono ?_;rintro e w' ⟨rfl,rfl⟩;rw[Y2w,HU.out])
    | (go_at_call 34;refine(Y9g _ n _ L _ 1 wc HL.out hb (by decide) Qj.out).mono ?_;rintro e w' ⟨rfl,rfl⟩;first | rw[Bz.out] | rw[Pc.out])
    | (go_at_call 36;refine(Y9o _ n _ L _ x.n _ x.L wc HL.out hb Qj.out Ca.out hxn Cv.out).mono ?_;rintro e w5 ⟨rfl,hb5⟩;have Za:=bx hb5;clear hb5;rw[Nf.out]))
     go_ret;exact⟨by rw[HN.out];rfl,Xj.out⟩
    | true=>
     cases q3 with
     | false=>
      have HN:=bx (Xn.out (by rw[Qk.out];simp))
      go_wp2_with (first
    | (go_at_call 32;rw[Sh.out];refine(Y8z _ 1 1 [x.access] wc rfl (by decide) Qi.out).mono ?_;rintro e w' ⟨rfl,rfl⟩;rw[Y2w,HU.out])
    | (go_at_call 34;refine(Y9g _ n _ L _ 1 wc HL.out hb (by decide) Qj.out).mono ?_;rintro e w' ⟨rfl,rfl⟩;first | rw[Bz.out] | rw[Pc.out])
    | (go_at_call 36;refine(Y9o _ n _ L _ x.n _ x.L wc HL.out hb Qj.out Ca.out hxn Cv.out).mono ?_;rintro e w5 ⟨rfl,hb5⟩;have Za:=bx hb5;clear hb5;rw[Nf.out]))
      go_ret;exact⟨by rw[HN.out];rfl,Xj.out⟩
     | true=>
      cases q4 with
      | false=>
       have HN:=bx (Xn.out (by rw[Qk.out];simp))
       go_wp2_with (first
    | (go_at_call 32;rw[Sh.out];refine(Y8z _ 1 1 [x.access] wc rfl (by decide) Qi.out).mono ?_;rintro e w' ⟨rfl,rfl⟩;rw[Y2w,HU.out])
    | (go_at_call 34;refine(Y9g _ n _ L _ 1 wc HL.out hb (by decide) Qj.out).mono ?_;rintro e w' ⟨rfl,rfl⟩;first | rw[Bz.out] | rw[Pc.out])
    | (go_at_call 36;refine(Y9o _ n _ L _ x.n _ x.L wc HL.out hb Qj.out Ca.out hxn Cv.out).mono ?_;rintro e w5 ⟨rfl,hb5⟩;have Za:=bx hb5;clear hb5;rw[Nf.out]))
       go_ret;exact⟨by rw[HN.out];rfl,Xj.out.trans (Za.out.mono Xj.out.size)⟩
      | true=>
       have Xq:=bx (Y2y HQ.out HX.out (by rw[Qk.out];rfl))
       go_wp2_with (first
    | (go_at_call 32;rw[Sh.out];refine(Y8z _ 1 1 [x.access] wc rfl (by decide) Qi.out).mono ?_;rintro e w' ⟨rfl,rfl⟩;rw[Y2w,HU.out])
    | (go_at_call 34;refine(Y9g _ n _ L _ 1 wc HL.out hb (by decide) Qj.out).mono ?_;rintro e w' ⟨rfl,rfl⟩;first | rw[Bz.out] | rw[Pc.out])
    | (go_at_call 36;refine(Y9o _ n _ L _ x.n _ x.L wc HL.out hb Qj.out Ca.out hxn Cv.out).mono ?_;rintro e w5 ⟨rfl,hb5⟩;have Za:=bx hb5;clear hb5;rw[Nf.out]))
       go_roundw
       case rel=>exact⟨k+1,by omega,by go_num,Xq,bx (Xj.out.trans (Za.out.mono Xj.out.size))⟩
       case measure=>simp [intOf];omega
  ·obtain rfl:na=k:=by omega
   have hkI:¬(na:Int)<(na:Int):=(by omega);have HN:Bx (R=decide (na≤64)):=bx (by rw[←Zi.out,X8z,Y1g HQ.out HM.out,Z25,HM.out]);by_cases h64:na≤64
   ·have hI:(na:Int)≤64:=by omega
    go_wp2;go_ret;exact⟨by rw[HN.out,Z47 h64];try rfl,HB.out⟩
   ·have hI:¬(na:Int)≤64:=by omega
    go_wp2;go_ret;exact⟨by rw[HN.out,Z48 h64];try rfl,HB.out⟩
open Go.RowKit
def Src (w:World) (gs gr:Nat) (b:List UInt8) (s:Rz Nat):Prop:=
 ∃(at_:Nat) (bad:Bool) (e:Int),Bk w gs 110 #[.pointer (some ⟨gr,0,none⟩),.int .i64 e]∧Rdr w gr b at_ bad∧gs≠gr∧match s with
  | .ok p=>e=0∧at_=p∧bad=false
  | .err k=>e=k∧k≠0
def Two (gs gr:Nat) (k:Nat):Prop:=k=gs∨k=gr
section
variable {w w':World} {gs gr:Nat} {b:List UInt8} {s:Rz Nat} {p:Nat} {k:Int}
theorem Rdr.keep {at_:Nat} {bad:Bool} (h:Rdr w gr b at_ bad) (hk:∀k,k≤gr→w'.heap[k]? = w.heap[k]?):Rdr w' gr b at_ bad:=by
 obtain⟨A,c,h1,h2,r⟩:=h;exact⟨A,c,(hk gr (Z00 _)).trans h1,Rd.keep h2 (fun q hq=>Y9c (hk q.block (by omega))),r⟩
theorem Rdr.ltr {at_:Nat} {bad:Bool} (h:Rdr w gr b at_ bad):gr<w.heap.size:=by obtain⟨_,_,hB,_⟩:=h;exact hB.lt
theorem Src.lt (h:Src w gs gr b s):gs<w.heap.size∧gr<w.heap.size:=by
 obtain⟨_,_,_,h1,h2,_⟩:=h;exact⟨h1.lt,h2.ltr⟩
theorem Src.below (h:Src w gs gr b s) (hb:Below w.heap.size w w'):Src w' gs gr b s:=by
 obtain⟨a,bd,e,h1,h2,r⟩:=h;exact⟨a,bd,e,h1.below hb h1.lt,h2.below hb,r⟩
theorem Src.low {B:Nat} (h:Src w gs gr b s) (hb:Below B w w') (h1:gs<B) (h2:gr<B):Src w' gs gr b s:=by
 obtain⟨a,bd,e,k1,k2,r⟩:=h;exact⟨a,bd,e,k1.below hb h1,k2.keep (fun k hk=>hb.block k (Nat.lt_of_le_of_lt hk h2)),r⟩
theorem Two.lt {B:Nat} (h1:gs<B) (h2:gr<B):∀k,Two gs gr k→k<B:=fun k h=>by rcases h with e | e <;> omega
theorem Src.ok_ (h:Src w gs gr b (.ok p)):Bk w gs 110 #[.pointer (some ⟨gr,0,none⟩),.int .i64 0]∧Rdr w gr b p false∧gs≠gr:=by
 obtain⟨a,bd,e,h1,h2,h3,rfl,rfl,rfl⟩:=h;exact⟨h1,h2,h3⟩
theorem Src.err_ (h:Src w gs gr b (.err k)):Bk w gs 110 #[.pointer (some ⟨gr,0,none⟩),.int .i64 k]∧k≠0:=by
 obtain⟨a,bd,e,h1,h2,h3,rfl,h4⟩:=h;exact⟨h1,h4⟩
theorem W5l {B t:Nat} {ad:Addr} {l:List UInt8} {q:Option Addr} {e:Int} (h:RB w B (some ad) l) (hl:l.map bV≠[]) (hB:Bk w gs t #[.pointer q,.int .i64 e]):ad.block≠gs:=by
 intro e2;obtain⟨ad',e',_,hc⟩:=h hl;injection e' with e'
 subst e'
 match l,hl with
 | x::r,_=>
  have h0:=hc 0 (bV x) rfl;have ha:ad.add 0=ad:=(by simp [Addr.add]);rw[ha]at h0;unfold Bk at hB;rw[←e2]at hB;simp only[World.cell?,hB]at h0
  split at h0
  ·cases h0
  ·match ho:ad.off with
   | 0=>rw[ho]at h0;simp [bV]at h0
   | 1=>rw[ho]at h0;simp [bV]at h0
   | q+2=>rw[ho]at h0;simp at h0
theorem Src.fail {at_:Nat} {bad:Bool} {e:Int} (hB:Bk w gs 110 #[.pointer (some ⟨gr,0,none⟩),.int .i64 e]) (hR:Rdr w gr b at_ bad) (hne:gs≠gr) (hk:k≠0) :
  Src (w.setCell ⟨gs,1,none⟩ (.int .i64 k)) gs gr b (.err k):=by
 obtain⟨A,c,h1,h2,r⟩:=hR;refine⟨at_,bad,k,by simpa using hB.set 1 (.int .i64 k),⟨A,c,h1.far (fun e=>hne e.symm) _,fun hn=>?_,r⟩,hne,rfl,hk⟩;obtain⟨ad,rfl,hlt,hc⟩:=h2 hn;have hgs:=W5l (w:=w) (B:=gr) (fun hn=>⟨ad,rfl,hlt,hc⟩) hn hB;exact⟨ad,rfl,hlt,fun i u hu=>(World.cell?_setCell_other w ⟨gs,1,none⟩ (ad.add i) _ (fun e=>hgs (by have:=congrArg Addr.block e;rw[blk_add]at this;exact this.symm))).trans (hc i u hu)⟩
theorem W7l (u:Value):Ch w (w.setCell ⟨gs,1,none⟩ u) (Two gs gr):=(Ch.refl w).setCell (fun _ => .inl rfl) u
theorem two_gb (hg:w.grownBy w' (some gr)):Ch w w' (Two gs gr):=Ch.of_grown hg (fun k e=>by injection e with e;exact .inr e.symm)
end
theorem Y5k (gs gr:Nat) (b:List UInt8) (at_:Nat) (bad:Bool) (k:Int) (w:World) (hB:Bk w gs 110 #[.pointer (some ⟨gr,0,none⟩),.int .i64 0]) (hR:Rdr w gr b at_ bad) (hne:gs≠gr) (hk:k≠0) :
  Calls Tryd.prog 47 #[.pointer (some ⟨gs,0,none⟩),.int .i64 k] w fun e w'=>(∃v,e = .returned v)∧Src w' gs gr b (.err k)∧Ch w w' (Two gs gr):=by
 have HK:=bx hk;have c1:w.cell? ⟨gs,1,none⟩=some (.int .i64 0):=(hB.cell 1).trans rfl;have f1:=hB.frz 1;have hlt:=hB.lt;have HB:=bx hB;have HR:=bx hR;have HN:=bx hne;clear hB hR hne hk
 go_enter Tryd.func47,Tryd.ntmps47
 go_wp2
 go_end0
 exact⟨⟨_,rfl⟩,Src.fail HB.out HR.out HN.out HK.out,W7l _⟩
theorem Y8e (gs gr:Nat) (b:List UInt8) (s:Rz Nat) (k:Int) (w:World) (h:Src w gs gr b s) (hk:k≠0) :
  Calls Tryd.prog 47 #[.pointer (some ⟨gs,0,none⟩),.int .i64 k] w fun e w'=>(∃v,e = .returned v)∧Src w' gs gr b (failR s k)∧Ch w w' (Two gs gr):=by
 cases s with
 | ok p=>obtain⟨hB,hR,hne⟩:=h.ok_;exact Y5k gs gr b p false k w hB hR hne hk
 | err j=>
  obtain⟨hB,hj⟩:=h.err_;have HS:=bx h;have c1:w.cell? ⟨gs,1,none⟩=some (.int .i64 j):=(hB.cell 1).trans rfl;have hI:(j==0)=false:=by rw[beq_eq_false_iff_ne];exact hj
  clear h hB hj hk
  go_enter Tryd.func47,Tryd.ntmps47
  go_wp2
  go_end0
  exact⟨⟨_,rfl⟩,HS.out,Ch.refl _⟩
theorem wrap_bad (j:Int):wrap64 (valN (.err j:Rz (Nat×Nat)))=0:=by
 show wrap64 0=0;unfold wrap64;omega
theorem X8x (gs gr n:Nat) (b:List UInt8) (s:Rz Nat) (w:World) (h:Src w gs gr b s) (h1:1≤n) (h8:n≤8) :
  Calls Tryd.prog 46 #[.pointer (some ⟨gs,0,none⟩),.int .i64 (n:Int)] w fun e w'=>e = .returned (.int .i64 (wrap64 (valN (onR s (rdN n) b))))∧Src w' gs gr b (stR (onR s (rdN n) b))∧Ch w w' (Two gs gr):=by
 have HS:=bx h;cases s with
 | err j=>
  obtain⟨hB,hj⟩:=h.err_;have c1:w.cell? ⟨gs,1,none⟩=some (.int .i64 j):=(hB.cell 1).trans rfl;have hI:(j != 0)=true:=by rw[bne_iff_ne];exact hj
  clear h hB hj
  go_enter Tryd.func46,Tryd.ntmps46
  go_wp2;go_ret;rw[Y8j,wrap_bad];exact⟨rfl,HS.out,Ch.refl _⟩
 | ok p=>
  obtain⟨hB,hR,hne⟩:=h.ok_;have c0:w.cell? ⟨gs,0,none⟩=some (.pointer (some ⟨gr,0,none⟩)):=(hB.cell 0).trans rfl;have c1:w.cell? ⟨gs,1,none⟩=some (.int .i64 0):=(hB.cell 1).trans rfl;have HB:=bx hB;have HN:=bx hne;have By:=bx (W7a gr b p false (n:Int) w hR);obtain⟨hcs⟩:Nonempty Unit:=⟨()⟩;have hok:okN b p false (n:Int)=decide (p+n≤b.length):=by unfold okN;rw[Z47 (show (1:Int)≤(n:Int) by omega),Z47 (show (n:Int)≤8 by omega),Bool.not_false,Z25,Z25,Z25,decide_eq_decide];omega
  have Qk:=bx hok;have hl8:gs<w.heap.size:=hB.lt;clear h hB hR hne hok hcs
  go_enter Tryd.func46,Tryd.ntmps46
  go_wp2_with fail
  refine By.out.mono ?_;rintro e w1 ⟨rfl,hr1,hg1⟩;have Zl:=bx (HB.out.grown hg1 (fun e=>HN.out (by injection e)));have c0:w1.cell? ⟨gs,0,none⟩=some (.pointer (some ⟨gr,0,none⟩)):=(Zl.out.cell 0).trans rfl;have c1:w1.cell? ⟨gs,1,none⟩=some (.int .i64 0):=(Zl.out.cell 1).trans rfl;have Pq:=bx hg1;have Xd:=bx hr1;have Xn:=bx (X5g gr b _ _ w1 hr1);clear hg1 hr1 By;by_cases hp:p+n≤b.length
  ·have hk1:okN b p false (n:Int)=true:=by rw[Qk.out];exact Z47 hp
   have hv:numV b p false (n:Int)=wrap64 (beN ((b.drop p).take n)):=by unfold numV;rw[hk1,if_pos rfl,Z30]
   have ha:numAt b p false (n:Int)=p+n:=by unfold numAt;rw[hk1,if_pos rfl,Z30]
   have he:onR (.ok p) (rdN n) b = .ok (beN ((b.drop p).take n),p+n):=by rw[Y9n];unfold rdN;rw[if_pos hp]
   rw[hk1]at Xn;rw[ha,hk1]at Xd;have HE:=bx he;obtain⟨V,hV⟩:∃V,wrap64 ((beN ((b.drop p).take n):Nat):Int)=V:=⟨_,rfl⟩;rw[hV]at hv;have HV:=bx hV;rw[hv];clear hk1 hv ha he hp hV;go_wp2_with fail
   refine Xn.out.mono ?_;rintro e w2 ⟨rfl,rfl⟩;go_wp2;go_ret;refine⟨?_,?_,two_gb Pq.out⟩
   ·rw[HE.out];exact congrArg (fun z=>Ending.returned (.int .i64 z)) HV.out.symm
   ·rw[HE.out]
    exact⟨p+n,false,0,Zl.out,Xd.out,HN.out,rfl,rfl,rfl⟩
  ·have hk1:okN b p false (n:Int)=false:=by rw[Qk.out];exact Z48 hp
   have hv:numV b p false (n:Int)=0:=by unfold numV;rw[hk1];rfl
   have he:onR (.ok p) (rdN n) b = .err 2:=by rw[Y9n];unfold rdN;rw[if_neg hp]
   rw[hk1]at Xn Xd;have HE:=bx he;rw[hv];have HF:=bx (Y5k gs gr b _ _ 2 w1 Zl.out Xd.out HN.out (by decide));clear hk1 hv he hp;go_wp2_with fail
   refine Xn.out.mono ?_;rintro e w2 ⟨rfl,rfl⟩;go_wp2_with fail
   refine HF.out.mono ?_;rintro e w2 ⟨⟨v,rfl⟩,hs2,hc2⟩;have Wf:=bx hs2;have Yr:=bx ((two_gb (gs:=gs) Pq.out).trans hc2 (fun _ _ h=>h));clear hs2 hc2 HF;go_wp2;go_ret;exact⟨by rw[HE.out,wrap_bad];rfl,by rw[HE.out];exact Wf.out,Yr.out⟩
theorem X8q {x:Int} (h:0≤x) (h2:x<4294967296):wrap64 x=x:=IntWalk.wrap64_in _ ⟨by omega,by omega⟩
theorem Y9s (gs gr n:Nat) (b:List UInt8) (s:Rz Nat) (w:World) (h:Src w gs gr b s) (h1:1≤n) (h4:n≤4) :
  Calls Tryd.prog 46 #[.pointer (some ⟨gs,0,none⟩),.int .i64 (n:Int)] w fun e w'=>e = .returned (.int .i64 (valN (onR s (rdN n) b)))∧Src w' gs gr b (stR (onR s (rdN n) b))∧Ch w w' (Two gs gr):=by
 have hv:=Y7q n s b;have hp:256 ^ n≤256 ^ 4:=Nat.pow_le_pow_right (by omega) h4;have p4:(256:Nat) ^ 4=4294967296:=(by decide);have hw:=X8q hv.1 (by omega);have hc:=X8x gs gr n b s w h h1 (by omega);rw[hw]at hc;exact hc
theorem Y2m (gs gr n:Nat) (b:List UInt8) (s:Rz Nat) (w:World) (h:Src w gs gr b s) :
  Calls Tryd.prog 70 #[.pointer (some ⟨gs,0,none⟩),.int .i64 (n:Int)] w fun e w'=>(∃v,e = .returned v∧OwB w' w.heap.size 5 v (valB (onR s (rdB n) b)))∧Src w' gs gr b (stR (onR s (rdB n) b))∧Ch w w' (Two gs gr):=by
 have HS:=bx h;cases s with
 | err j=>
  obtain⟨hB,hj⟩:=h.err_;have c1:w.cell? ⟨gs,1,none⟩=some (.int .i64 j):=(hB.cell 1).trans rfl;have hI:(j != 0)=true:=by rw[bne_iff_ne];exact hj
  clear h hB hj
  go_enter Tryd.func70,Tryd.ntmps70
  go_wp2;go_ret;exact⟨⟨_,rfl,OwL.nil⟩,HS.out,Ch.refl _⟩
 | ok p=>
  obtain⟨hB,hR,hne⟩:=h.ok_;have c0:w.cell? ⟨gs,0,none⟩=some (.pointer (some ⟨gr,0,none⟩)):=(hB.cell 0).trans rfl;have c1:w.cell? ⟨gs,1,none⟩=some (.int .i64 0):=(hB.cell 1).trans rfl;have HB:=bx hB;have HN:=bx hne;have Bw:=bx (X6x gr b p false (n:Int) w hR);have hok:okB b p false (n:Int)=decide (p+n≤b.length):=by unfold okB;rw[Z47 (show (0:Int)≤(n:Int) by omega),Bool.not_false,Z25,Z25,decide_eq_decide];omega
  have Qk:=bx hok;have hl8:gs<w.heap.size:=hB.lt;clear h hB hR hne hok
  go_enter Tryd.func70,Tryd.ntmps70
  go_wp2_with fail
  refine Bw.out.mono ?_;rintro e w1 ⟨v,rfl,ho1,hr1,hg1⟩;have Zl:=bx (HB.out.grown hg1 (fun e=>HN.out (by injection e)));have c0:w1.cell? ⟨gs,0,none⟩=some (.pointer (some ⟨gr,0,none⟩)):=(Zl.out.cell 0).trans rfl;have c1:w1.cell? ⟨gs,1,none⟩=some (.int .i64 0):=(Zl.out.cell 1).trans rfl;have Pq:=bx hg1;have Xd:=bx hr1;have Yb:=bx ho1;have Xn:=bx (X5g gr b _ _ w1 hr1);obtain⟨AV,nV,cV,rfl,hnV,_⟩:=OwL.sl ho1;clear hg1 hr1 ho1 Bw;by_cases hp:p+n≤b.length
  ·have hk1:okB b p false (n:Int)=true:=by rw[Qk.out];exact Z47 hp
   have hv:bytV b p false (n:Int)=(b.drop p).take n:=by unfold bytV;rw[hk1,if_pos rfl,Z30]
   have ha:bytAt b p false (n:Int)=p+n:=by unfold bytAt;rw[hk1,if_pos rfl,Z30]
   have he:onR (.ok p) (rdB n) b = .ok ((b.drop p).take n,p+n):=by rw[Y9n];unfold rdB;rw[if_pos hp]
   rw[hk1]at Xn;rw[ha,hk1]at Xd;rw[hv]at Yb;have HE:=bx he;clear hk1 hv ha he hp hnV;go_wp2_with fail
   refine Xn.out.mono ?_;rintro e w2 ⟨rfl,rfl⟩;go_wp2;go_ret;refine⟨⟨_,rfl,?_⟩,?_,two_gb Pq.out⟩
   ·rw[HE.out];exact Yb.out
   ·rw[HE.out]
    exact⟨p+n,false,0,Zl.out,Xd.out,HN.out,rfl,rfl,rfl⟩
  ·have hk1:okB b p false (n:Int)=false:=by rw[Qk.out];exact Z48 hp
   have hv:bytV b p false (n:Int)=[]:=by unfold bytV;rw[hk1];rfl
   have he:onR (.ok p) (rdB n) b = .err 2:=by rw[Y9n];unfold rdB;rw[if_neg hp]
   rw[hk1]at Xn Xd;rw[hv]at Yb;have HE:=bx he;have HF:=bx (Y5k gs gr b _ _ 2 w1 Zl.out Xd.out HN.out (by decide));clear hk1 hv he hp hnV;go_wp2_with fail
   refine Xn.out.mono ?_;rintro e w2 ⟨rfl,rfl⟩;go_wp2_with fail
   refine HF.out.mono ?_;rintro e w2 ⟨⟨v,rfl⟩,hs2,hc2⟩;have Wf:=bx hs2
   have Si:=bx (Yb.out.ch hc2 (fun k hk h=>by
    have hlo:=(World.ownsRow.lt Yb.out k hk).1;rcases h with e | e
    ·omega
    ·have:=Xd.out.ltr
     have h9:gr<w.heap.size:=by have:=HS.out.lt.2;exact this
     omega))
   have Yr:=bx ((two_gb (gs:=gs) Pq.out).trans hc2 (fun _ _ h=>h));clear hs2 hc2 HF;go_wp2;go_ret;exact⟨⟨_,rfl,by rw[HE.out];exact Si.out⟩,by rw[HE.out];exact Wf.out,Yr.out⟩
theorem Y4y (gs gr:Nat) (b:List UInt8) (s:Rz Nat) (w:World) (h:Src w gs gr b s) :
  Calls Tryd.prog 49 #[.pointer (some ⟨gs,0,none⟩)] w fun e w'=>e = .returned (.int .i64 (valN (onR s cntI b)))∧Src w' gs gr b (stR (onR s cntI b))∧Ch w w' (Two gs gr):=by
 have HN:=bx (Y9s gs gr 2 b s w h (by decide) (by decide));rw[X4n];obtain⟨r,hr⟩:∃r,onR s (rdN 2) b=r:=⟨_,rfl⟩;have hv:=Y7q 2 s b;rw[hr]at HN hv;rw[hr];obtain⟨V,hV⟩:∃V,valN r=V:=⟨_,rfl⟩;rw[hV]at HN hv;have HV:=bx hV;have hv1:=hv.1;have hv2:V<65536:=hv.2;clear h hr hV hv
 go_enter Tryd.func49,Tryd.ntmps49
 go_wp2_with fail
 refine HN.out.mono ?_;rintro e w1 ⟨rfl,hs1,hc1⟩;have Sg:=bx hs1;have Zt:=bx hc1;clear hs1 hc1 HN;by_cases h64:64<V
 ·cases r with
  | err k=>exact absurd h64 (by rw[←HV.out];show ¬(64:Int)<0;decide)
  | ok x=>
   have hx:64<x.1:=by have:(x.1:Int)=V:=HV.out;omega
   have HF:=bx (Y8e gs gr b _ 24 w1 Sg.out (by decide));have HX:=bx hx;clear hx;go_wp2_with fail
   refine HF.out.mono ?_;rintro e w2 ⟨⟨v,rfl⟩,hs2,hc2⟩;have Wf:=bx hs2;have Yr:=bx (Zt.out.trans hc2 (fun _ _ h=>h));clear hs2 hc2 HF;go_wp2;go_ret;have e9:(Rz.ok x).bind (fun x=>if 64<x.1 then Rz.err 24 else Rz.ok x) = .err 24:=by show (if 64<x.1 then Rz.err 24 else Rz.ok x)=_;rw[if_pos HX.out]
   rw[e9];exact⟨rfl,Wf.out,Yr.out⟩
 ·have e9:r.bind (fun x=>if 64<x.1 then Rz.err 24 else Rz.ok x)=r:=by
   cases r with
   | err k=>rfl
   | ok x=>show (if 64<x.1 then Rz.err 24 else Rz.ok x)=_;rw[if_neg (by have:(x.1:Int)=V:=HV.out;omega)]
  have HE:=bx e9;clear e9;go_wp2;go_ret;rw[HE.out];exact⟨by rw[HV.out];rfl,Sg.out,Zt.out⟩
open Go.RowKit
theorem attTy:ETy Tryd.prog 32 41 (.agg #[.int .i64 0,.slice none 0 0]) 2 32:=⟨Tryd.underlying32,info_parts (by kernel_rfl),rfl,by decide⟩
theorem OwS.ch {α:Type} {fC:α→List Value} {sz:Nat} {w w':World} {base:Nat} {e:TypeId} {v:Value} {l:List α} {S:Nat→Prop} (h:OwS fC sz w base e v l) (c:Ch w w' S) (hS:∀k,S k→k<base):OwS fC sz w' base e v l:=by
 have hs:∀k,v.ownBlock=some k→w'.heap[k]? = w.heap[k]? := fun k hk=>by
  have:=World.ownsRow.lt h k hk
  exact c.same k this.2 (fun h9=>by have:=hS k h9;omega)
 refine⟨h.1,?_⟩;rcases h.2 with hn | ⟨g,cap,cur,rfl,hb,hgg,rest⟩
 ·exact .inl hn
 ·exact .inr ⟨g,cap,cur,rfl,hb,(hs g rfl).trans hgg,rest⟩
structure AtR (w wx:World) (B gs gr:Nat) (b:List UInt8) (V:Value) (L:List AtE) (s:Rz Nat):Prop where
 own:OwS attC 2 wx B 41 V L
 sub:SubsA B wx V L
 src:Src wx gs gr b s
 ch:Ch w wx (Two gs gr)
 z:B≤wx.heap.size
 lo:gs<B∧gr<B
section
variable {w wx w':World} {B gs gr:Nat} {b:List UInt8} {V V':Value} {L:List AtE} {s s':Rz Nat}
theorem AtR.two (h:AtR w wx B gs gr b V L s):∀k,Two gs gr k→k<B:=Two.lt h.lo.1 h.lo.2
theorem AtR.next (h:AtR w wx B gs gr b V L s) (hs:Src w' gs gr b s') (c:Ch wx w' (Two gs gr)):AtR w w' B gs gr b V L s':=
 ⟨h.own.ch c h.two,h.sub.ch c h.two,hs,h.ch.trans c (fun _ _ h=>h),Z08 h.z c.size,h.lo⟩
theorem AtR.below (h:AtR w wx B gs gr b V L s) (hb:Below wx.heap.size wx w'):AtR w w' B gs gr b V L s:=h.next (h.src.below hb) (Ch.of_below hb)
theorem AtR.alloc (h:AtR w wx B gs gr b V L s) (o:Obj):AtR w (wx.alloc o) B gs gr b V L s:=h.below (Y9z (Below.refl _ _) (Z00 _) o)
theorem AtR.lt (h:AtR w wx B gs gr b V L s):∀k,V.ownBlock=some k→B≤k∧k<wx.heap.size:=fun k hk=>World.ownsRow.lt h.own k hk
theorem AtR.app {x:AtE} (h:AtR w wx B gs gr b V L s) (hx:SlX wx (Bel B wx V) x.s) (ho:OwS attC 2 w' B 41 V' (L++[x])) (hg:wx.grownBy w' V.ownBlock) (hv:V'.ownBlock=V.ownBlock∨V'.ownBlock=some wx.heap.size) (hB:w.heap.size≤B):AtR w w' B gs gr b V' (L++[x]) s:=by
 have hb:Below B wx w':=(Below.refl _ _).grown hg h.z fun k hk=>(h.lt k hk).1;have hsr:Src w' gs gr b s:=h.src.low hb h.lo.1 h.lo.2;refine⟨ho,h.sub.app (SubsA.one hx) hg hv,hsr,?_,Z08 h.z hg.size,h.lo⟩
 exact⟨hg.os.trans h.ch.os,hg.tape.trans h.ch.tape,hg.output.trans h.ch.output,Z08 h.ch.size hg.size,fun k hk hn=>by
  refine(hg.block k (Z07 hk h.ch.size) (fun e=>?_)).trans (h.ch.same k hk hn)
  have:=(h.lt k e.symm).1
  omega⟩
end
def AttsPost (w:World) (gs gr:Nat) (b:List UInt8) (R:Rz (List Att×Nat)) (e:Ending) (w':World):Prop:=∃V L,e = .returned V∧AtR w w' w.heap.size gs gr b V L (stR R)∧L.length≤64∧∀x,R = .ok x→L.map AtE.p=x.1
theorem Y4b (gs gr:Nat) (b:List UInt8) (s:Rz Nat) (w:World) (h:Src w gs gr b s) :
  Calls Tryd.prog 51 #[.pointer (some ⟨gs,0,none⟩)] w (AttsPost w gs gr b (onR s attsP b)):=by
 obtain⟨R,hR⟩:∃R,onR s attsP b=R:=⟨_,rfl⟩;rw[hR];have hlt:=h.lt;have HM:=bx (Y4y gs gr b s w h);obtain⟨r,hr⟩:∃r,onR s cntI b=r:=⟨_,rfl⟩;have hv:=X6q (s:=s) (b:=b);rw[hr]at HM hv;obtain⟨n,hn⟩:∃n:Nat,valN r=(n:Int):=⟨(valN r).toNat,by omega⟩;rw[hn]at HM hv;have Gh:Bx (repR attP b [] (stR r) n=R):=bx (by rw[←Y3m hr hn];exact hR);have hn64:n≤64:=(by omega);obtain⟨B,hB⟩:∃B,w.heap.size=B:=⟨_,rfl⟩;have HB:=bx hB;have hgs:gs<B:=(by omega);have hgr:gr<B:=(by omega);clear h hR hr hv hn hlt hB
 go_enter Tryd.func51,Tryd.ntmps51
 go_wp2_with fail
 refine HM.out.mono ?_;rintro e w1 ⟨rfl,hs1,hc1⟩;have Ms:Bx (AtR w w1 B gs gr b (.slice none 0 0) [] (stR r)):=bx ⟨OwS.nil,SubsA.nil,hs1,hc1,by rw[←HB.out];exact hc1.size,hgs,hgr⟩;clear hs1 hc1 HM;go_wp2_with fail
 go_loopw [3,4] (fun V nv wx=>∃(m:Nat) (L:List AtE) (s':Rz Nat),nv = .int .i64 (m:Int)∧L.length+m≤64∧Bx (AtR w wx B gs gr b V L s')∧Bx (repR attP b (L.map AtE.p) s' m=R)) (fun _ nv _=>(intOf nv).toNat)
 case atStart=>exact⟨n,[],stR r,rfl,by simpa using hn64,Ms,Gh⟩
 case round=>
  clear Ms Gh;obtain⟨m,L,s',rfl,hLm,HA,Zi⟩:=hrel;obtain⟨AV,cV,rfl,_,_⟩:=OwS.rd HA.out.own;obtain⟨nV,hnV⟩:∃nV,L.length=nV:=⟨_,rfl⟩;have Nd:=bx hnV;rw[hnV]at HA ⊢;clear hnV;have hfin:(m=0∨∃k,s' = .err k)→AttsPost w gs gr b R (.returned (.slice AV nV cV)) wr:=fun h=>by obtain⟨e1,e2⟩:=Y1j Zi.out h;exact⟨_,L,rfl,by rw[e1,HB.out];exact HA.out,by omega,e2⟩
  have Vr:=bx hfin;clear hfin;cases s' with
  | err k=>
   obtain⟨hB1,hk0⟩:=HA.out.src.err_;have c1:wr.cell? ⟨gs,1,none⟩=some (.int .i64 k):=(hB1.cell 1).trans rfl;have hkI:(k==0)=false:=by rw[beq_eq_false_iff_ne];exact hk0
   have HF:=bx (Vr.out (.inr ⟨k,rfl⟩));clear hB1 hk0 Vr;by_cases hm:m=0
   ·have hmI:¬(0:Int)<(m:Int):=by omega
    clear hm;go_wp2;go_ret;exact HF.out
   ·have hmI:(0:Int)<(m:Int):=by omega
    clear hm;go_wp2;go_ret;exact HF.out
  | ok p=>
   obtain⟨hB1,_,_⟩:=HA.out.src.ok_;have c1:wr.cell? ⟨gs,1,none⟩=some (.int .i64 0):=(hB1.cell 1).trans rfl;clear hB1;cases m with
   | zero=>have hmI:¬(0:Int)<((0:Nat):Int):=(by omega);have HF:=bx (Vr.out (.inl rfl));clear Vr;go_wp2;go_ret;exact HF.out
   | succ m=>
    have hmI:(0:Int)<((m+1:Nat):Int):=(by omega);obtain⟨r1,h1⟩:∃r1,onR (.ok p) (rdN 2) b=r1:=⟨_,rfl⟩;have Wu:=bx (Y9s gs gr 2 b (.ok p) wr HA.out.src (by decide) (by decide));rw[h1]at Wu;have H1:=bx h1;obtain⟨v1,hv1⟩:∃v1,valN r1=v1:=⟨_,rfl⟩;rw[hv1]at Wu;have Jl:=bx hv1;clear h1 hv1 Vr;go_wp2_with fail
    refine Wu.out.mono ?_;rintro e w1 ⟨rfl,hs1,hc1⟩;have Vs:=bx (HA.out.next hs1 hc1);clear hs1 hc1 Wu HA c1;go_wp2_with fail
    obtain⟨ga,hga⟩:∃ga,w1.heap.size=ga:=⟨_,rfl⟩;have Jk:=bx hga;have hzB:B≤ga:=by rw[←hga];exact Vs.out.z
    have Zj:=bx (Bk.newAt w1 41 #[.int .i64 v1,.slice none 0 0] hga);have Rj:=bx (Vs.out.alloc (.cells #[.int .i64 v1,.slice none 0 0] 41));have Yr:Bx (Ch w1 (w1.alloc (.cells #[.int .i64 v1,.slice none 0 0] 41)) (Two gs gr)):=bx ((Ch.refl w1).alloc _);rw[hga];generalize w1.alloc (.cells #[.int .i64 v1,.slice none 0 0] 41)=w2 at Zj Rj Yr ⊢;obtain⟨r2,h2⟩:∃r2,onR (stR r1) (rdN 4) b=r2:=⟨_,rfl⟩;have Ts:=bx (Y9s gs gr 4 b (stR r1) w2 Rj.out.src (by decide) (by decide));have hv2:=Y7q 4 (stR r1) b;rw[h2]at Ts hv2;obtain⟨n2,hn2⟩:∃n2:Nat,valN r2=(n2:Int):=⟨(valN r2).toNat,by omega⟩;rw[hn2]at Ts;have H2:=bx h2;have HN:=bx hn2;clear hga h2 hn2 hv2;refine Ts.out.mono ?_;rintro e w3 ⟨rfl,hs3,hc3⟩;have Xp:=bx hs3;have Yw:=bx (Yr.out.trans hc3 (fun _ _ h=>h));have Zo:=bx (Zj.out.ch hc3 (fun h=>by have:=Rj.out.two ga h;omega));clear hs3 hc3 Ts Rj Yr Zj;go_wp2_with fail
    obtain⟨r3,h3⟩:∃r3,onR (stR r2) (rdB n2) b=r3:=⟨_,rfl⟩;have Vl:=bx (Y2m gs gr n2 b (stR r2) w3 Xp.out);rw[h3]at Vl;have H3:=bx h3;clear h3;refine Vl.out.mono ?_;rintro e w4 ⟨⟨v,rfl,ho4⟩,hs4,hc4⟩;have Yg:=bx (Yw.out.trans hc4 (fun _ _ h=>h));have Zk:=bx (Zo.out.ch hc4 (fun h=>by have:=Vs.out.two ga h;omega));have Lg:=bx Zo.out.lt;have R9:=bx hc4.size;have Yn:=bx hs4;have hlo4:=fun k hk=>(World.ownsRow.lt ho4 k hk).1;obtain⟨A4,n4,c4,rfl,hn4,hr4⟩:=OwL.sl ho4
    have Gg:Bx (SlB w4 w4.heap.size ⟨A4,n4,c4,valB r3⟩∧∀q,A4=some q→w3.heap.size≤q.block):=bx (by
     obtain⟨A',c',e,hr',hc',hm'⟩:=OwL.rd ho4;injection e with e1 e2 e3
     subst e1;subst e3;refine⟨⟨e2.symm,by show n4≤c4;omega,hm',hr'⟩,fun q hq=>?_⟩;rcases ho4.2 with⟨e,_⟩ | ⟨g,_,_,e,_⟩
     ·injection e with e _ _
      rw[e]at hq;cases hq
     ·injection e with e _ _
      rw[e]at hq;injection hq with hq
      subst hq;subst e;exact hlo4 g rfl)
    clear hs4 hc4 ho4 hlo4 hr4 hn4 Vl Yw Zo Xp;have hc40:w4.cell? ⟨ga,0,none⟩=some (.int .i64 v1):=(Zk.out.cell 0).trans rfl;have hc41:w4.cell? ⟨ga,1,none⟩=some (.slice none 0 0):=(Zk.out.cell 1).trans rfl;have hf41:=Zk.out.frz 1;go_upto_region 7 with(fail)
    have Zm:Bx (Bk (w4.setCell ⟨ga,1,none⟩ (.slice A4 n4 c4)) ga 41 #[.int .i64 v1,.slice A4 n4 c4]):=bx (by simpa using Zk.out.set 1 (.slice A4 n4 c4));have hb5:Below B w4 (w4.setCell ⟨ga,1,none⟩ (.slice A4 n4 c4)):=(Below.refl B w4).setCell hzB _;have Xi:Bx (Ch w1 (w4.setCell ⟨ga,1,none⟩ (.slice A4 n4 c4)) (Two gs gr)):=bx (Yg.out.setCell (fun h=>by rw[Jk.out]at h;exact absurd h (Nat.lt_irrefl _)) _);have Yf:=bx (Yn.out.low hb5 hgs hgr)
    have R8:Bx (SlB (w4.setCell ⟨ga,1,none⟩ (.slice A4 n4 c4)) w4.heap.size ⟨A4,n4,c4,valB r3⟩):=bx ⟨Gg.out.1.1,Gg.out.1.2.1,Gg.out.1.2.2.1,fun hn=>by
     obtain⟨ad,e,hb,hc⟩:=Gg.out.1.2.2.2 hn;have hlo:=Gg.out.2 ad e
     have hne:ad.block≠ga:=by
      have:=Lg.out
      have hlo:w3.heap.size≤ad.block:=hlo;omega
     exact⟨ad,e,hb,fun i u hu=>(World.cell?_setCell_other w4 ⟨ga,1,none⟩ (ad.add i) _ (fun e=>hne (by have:=congrArg Addr.block e;rw[blk_add]at this;exact this.symm))).trans (hc i u hu)⟩⟩
    have hz5:(w4.setCell ⟨ga,1,none⟩ (.slice A4 n4 c4)).heap.size=w4.heap.size:=(by simp [World.setCell]);generalize w4.setCell ⟨ga,1,none⟩ (.slice A4 n4 c4)=w5 at Zm Xi Yf R8 hz5 ⊢;have Bv:Bx (AtR w w5 B gs gr b (.slice AV nV cV) L (stR r3)):=bx (Vs.out.next Yf.out Xi.out);have Kt:=bx (Bv.out.alloc (.cells #[.int .i64 v1,.slice A4 n4 c4] 41));have Zd:=bx (RS.new (fC:=attC) w5 ⟨v1,⟨A4,n4,c4,valB r3⟩⟩ #[.int .i64 v1,.slice A4 n4 c4] rfl 41 (0,0))
    have Xr:Bx (SlX (w5.alloc (.cells #[.int .i64 v1,.slice A4 n4 c4] 41)) (Bel B (w5.alloc (.cells #[.int .i64 v1,.slice A4 n4 c4] 41)) (.slice AV nV cV)) ⟨A4,n4,c4,valB r3⟩):=bx (SlX.fresh (S:=w3.heap.size) ((R8.out.below (Y9z (Below.refl w4.heap.size w5) (by rw[hz5];exact Z00 _) _) (Z00 _)).more (by rw[←hz5];simp)) (by have:=Lg.out;omega) Gg.out.2 (fun k hk=>by
     have:=(Vs.out.lt k hk).2
     rw[Jk.out]at this
     have:=Lg.out
     omega))
    have Ts:Bx ((L.length+[(⟨v1,⟨A4,n4,c4,valB r3⟩⟩:AtE)].length)*32≤140737488355328):=bx (by simp only[Z11,Z13];omega);have hz6:B≤(w5.alloc (.cells #[.int .i64 v1,.slice A4 n4 c4] 41)).heap.size:=Kt.out.z;have hcc0:w5.cell? ⟨ga,0,none⟩=some (.int .i64 v1):=(Zm.out.cell 0).trans rfl;have hcc1:w5.cell? ⟨ga,1,none⟩=some (.slice A4 n4 c4):=(Zm.out.cell 1).trans rfl;have Pb:=bx (X5v Zi.out H1.out H2.out HN.out H3.out);clear Vs Bv Yg Xi Zk Zm Yn Yf Gg R8 Lg R9 hb5 hc40 hc41 hf41 hz5 Zi H1 H2 H3 HN;go_wp2_with (at_builtin;refine Y9y _ attCels rfl (.tmp 27) (.tmp 29) rfl attTy (by decide) B (.slice AV nV cV) L rfl Kt.out.own (w5.heap.size+1) (some ⟨w5.heap.size,0,none⟩) 1 1 [⟨v1,⟨A4,n4,c4,valB r3⟩⟩] rfl rfl Zd.out Ts.out hz6 ?_;intro V7 w7 hO7 hg7 hv7 _;have Cu:=bx (Kt.out.app (x:=⟨v1,⟨A4,n4,c4,valB r3⟩⟩) Xr.out hO7 hg7 hv7 (Z32 HB.out)))
    have Ct:Bx (repR attP b ((L++[(⟨v1,⟨A4,n4,c4,valB r3⟩⟩:AtE)]).map AtE.p) (stR r3) m=R):=bx (by have e:=Pb.out;rw[Jl.out]at e;rw[Z34];exact e);clear hO7 hg7 hv7 Kt Xr Zd Pb Ts;go_roundw
    case rel=>exact⟨m,L++[⟨v1,⟨A4,n4,c4,valB r3⟩⟩],stR r3,by go_num,by rw[Z09];simp only[Z11,Z13];omega,Cu,Ct⟩
    case measure=>simp [intOf]
open Go.RowKit
theorem memTy:ETy Tryd.prog 31 43 (.agg #[.int .i64 0,.int .i64 0,.int .i64 0,.slice none 0 0]) 4 48:=⟨Tryd.underlying31,info_parts (by kernel_rfl),rfl,by decide⟩
structure MmR (w wx:World) (B gs gr:Nat) (b:List UInt8) (V:Value) (L:List MmE) (s:Rz Nat):Prop where
 own:OwS memC 4 wx B 43 V L
 sub:SubsM B wx V L
 src:Src wx gs gr b s
 ch:Ch w wx (Two gs gr)
 z:B≤wx.heap.size
 lo:gs<B∧gr<B
section
variable {w wx w':World} {B gs gr:Nat} {b:List UInt8} {V V':Value} {L:List MmE} {s s':Rz Nat}
theorem MmR.two (h:MmR w wx B gs gr b V L s):∀k,Two gs gr k→k<B:=Two.lt h.lo.1 h.lo.2
theorem MmR.next (h:MmR w wx B gs gr b V L s) (hs:Src w' gs gr b s') (c:Ch wx w' (Two gs gr)):MmR w w' B gs gr b V L s':=
 ⟨h.own.ch c h.two,h.sub.ch c h.two,hs,h.ch.trans c (fun _ _ h=>h),Z08 h.z c.size,h.lo⟩
theorem MmR.below (h:MmR w wx B gs gr b V L s) (hb:Below wx.heap.size wx w'):MmR w w' B gs gr b V L s:=h.next (h.src.below hb) (Ch.of_below hb)
theorem MmR.alloc (h:MmR w wx B gs gr b V L s) (o:Obj):MmR w (wx.alloc o) B gs gr b V L s:=h.below (Y9z (Below.refl _ _) (Z00 _) o)
theorem MmR.lt (h:MmR w wx B gs gr b V L s):∀k,V.ownBlock=some k→B≤k∧k<wx.heap.size:=fun k hk=>World.ownsRow.lt h.own k hk
theorem MmR.app {x:MmE} (h:MmR w wx B gs gr b V L s) (hx:MmX wx (Bel B wx V) x) (ho:OwS memC 4 w' B 43 V' (L++[x])) (hg:wx.grownBy w' V.ownBlock) (hv:V'.ownBlock=V.ownBlock∨V'.ownBlock=some wx.heap.size) (hB:w.heap.size≤B):MmR w w' B gs gr b V' (L++[x]) s:=by
 have hb:Below B wx w':=(Below.refl _ _).grown hg h.z fun k hk=>(h.lt k hk).1;have hsr:Src w' gs gr b s:=h.src.low hb h.lo.1 h.lo.2;refine⟨ho,h.sub.app (SubsM.one hx) hg hv,hsr,?_,Z08 h.z hg.size,h.lo⟩
 exact⟨hg.os.trans h.ch.os,hg.tape.trans h.ch.tape,hg.output.trans h.ch.output,Z08 h.ch.size hg.size,fun k hk hn=>by
  refine(hg.block k (Z07 hk h.ch.size) (fun e=>?_)).trans (h.ch.same k hk hn)
  have:=(h.lt k e.symm).1
  omega⟩
end
def MemsPost (w:World) (gs gr:Nat) (b:List UInt8) (R:Rz (List Mem×Nat)) (e:Ending) (w':World):Prop:=∃V L,e = .returned V∧MmR w w' w.heap.size gs gr b V L (stR R)∧L.length≤64∧∀x,R = .ok x→L.map MmE.p=x.1
theorem Y2f (gs gr:Nat) (b:List UInt8) (s:Rz Nat) (w:World) (h:Src w gs gr b s) :
  Calls Tryd.prog 50 #[.pointer (some ⟨gs,0,none⟩)] w (MemsPost w gs gr b (onR s memsP b)):=by
 obtain⟨R,hR⟩:∃R,onR s memsP b=R:=⟨_,rfl⟩;rw[hR];have hlt:=h.lt;have HM:=bx (Y4y gs gr b s w h);obtain⟨r,hr⟩:∃r,onR s cntI b=r:=⟨_,rfl⟩;have hv:=X6q (s:=s) (b:=b);rw[hr]at HM hv;obtain⟨n,hn⟩:∃n:Nat,valN r=(n:Int):=⟨(valN r).toNat,by omega⟩;rw[hn]at HM hv;have Gh:Bx (repR memP b [] (stR r) n=R):=bx (by rw[←Y3m hr hn];exact hR);have hn64:n≤64:=(by omega);obtain⟨B,hB⟩:∃B,w.heap.size=B:=⟨_,rfl⟩;have HB:=bx hB;have hgs:gs<B:=(by omega);have hgr:gr<B:=(by omega);clear h hR hr hv hn hlt hB
 go_enter Tryd.func50,Tryd.ntmps50
 go_wp2_with fail
 refine HM.out.mono ?_;rintro e w1 ⟨rfl,hs1,hc1⟩;have Ms:Bx (MmR w w1 B gs gr b (.slice none 0 0) [] (stR r)):=bx ⟨OwS.nil,SubsM.nil,hs1,hc1,by rw[←HB.out];exact hc1.size,hgs,hgr⟩;clear hs1 hc1 HM;go_wp2_with fail
 go_loopw [3,4] (fun V nv wx=>∃(m:Nat) (L:List MmE) (s':Rz Nat),nv = .int .i64 (m:Int)∧L.length+m≤64∧Bx (MmR w wx B gs gr b V L s')∧Bx (repR memP b (L.map MmE.p) s' m=R)) (fun _ nv _=>(intOf nv).toNat)
 case atStart=>exact⟨n,[],stR r,rfl,by simpa using hn64,Ms,Gh⟩
 case round=>
  clear Ms Gh;obtain⟨m,L,s',rfl,hLm,HA,Zi⟩:=hrel;obtain⟨AV,cV,rfl,_,_⟩:=OwS.rd HA.out.own;obtain⟨nV,hnV⟩:∃nV,L.length=nV:=⟨_,rfl⟩;have Nd:=bx hnV;rw[hnV]at HA ⊢;clear hnV;have hfin:(m=0∨∃k,s' = .err k)→MemsPost w gs gr b R (.returned (.slice AV nV cV)) wr:=fun h=>by obtain⟨e1,e2⟩:=Y1j Zi.out h;exact⟨_,L,rfl,by rw[e1,HB.out];exact HA.out,by omega,e2⟩
  have Vr:=bx hfin;clear hfin;cases s' with
  | err k=>
   obtain⟨hB1,hk0⟩:=HA.out.src.err_;have c1:wr.cell? ⟨gs,1,none⟩=some (.int .i64 k):=(hB1.cell 1).trans rfl;have hkI:(k==0)=false:=by rw[beq_eq_false_iff_ne];exact hk0
   have HF:=bx (Vr.out (.inr ⟨k,rfl⟩));clear hB1 hk0 Vr;by_cases hm:m=0
   ·have hmI:¬(0:Int)<(m:Int):=by omega
    clear hm;go_wp2;go_ret;exact HF.out
   ·have hmI:(0:Int)<(m:Int):=by omega
    clear hm;go_wp2;go_ret;exact HF.out
  | ok p=>
   obtain⟨hB1,_,_⟩:=HA.out.src.ok_;have c1:wr.cell? ⟨gs,1,none⟩=some (.int .i64 0):=(hB1.cell 1).trans rfl;clear hB1;cases m with
   | zero=>have hmI:¬(0:Int)<((0:Nat):Int):=(by omega);have HF:=bx (Vr.out (.inl rfl));clear Vr;go_wp2;go_ret;exact HF.out
   | succ m=>
    have hmI:(0:Int)<((m+1:Nat):Int):=(by omega);obtain⟨r1,h1⟩:∃r1,onR (.ok p) (rdN 2) b=r1:=⟨_,rfl⟩;have Wu:=bx (Y9s gs gr 2 b (.ok p) wr HA.out.src (by decide) (by decide));rw[h1]at Wu;have H1:=bx h1;obtain⟨v1,hv1⟩:∃v1,valN r1=v1:=⟨_,rfl⟩;rw[hv1]at Wu;have Jl:=bx hv1;clear h1 hv1 Vr;go_wp2_with fail
    refine Wu.out.mono ?_;rintro e w1a ⟨rfl,hs1,hc1⟩;have Gf:=bx (HA.out.next hs1 hc1);clear hs1 hc1 Wu HA c1;obtain⟨r2,h2⟩:∃r2,onR (stR r1) (rdN 2) b=r2:=⟨_,rfl⟩;have Wu:=bx (Y9s gs gr 2 b (stR r1) w1a Gf.out.src (by decide) (by decide));rw[h2]at Wu;have H2:=bx h2;obtain⟨v2,hv2⟩:∃v2,valN r2=v2:=⟨_,rfl⟩;rw[hv2]at Wu;have Tc:=bx hv2;clear h2 hv2;go_wp2_with fail
    refine Wu.out.mono ?_;rintro e w1b ⟨rfl,hs1,hc1⟩;have Ge:=bx (Gf.out.next hs1 hc1);clear hs1 hc1 Wu Gf;obtain⟨r3,h3⟩:∃r3,onR (stR r2) (rdN 2) b=r3:=⟨_,rfl⟩;have Wu:=bx (Y9s gs gr 2 b (stR r2) w1b Ge.out.src (by decide) (by decide));rw[h3]at Wu;have H3:=bx h3;obtain⟨v3,hv3⟩:∃v3,valN r3=v3:=⟨_,rfl⟩;rw[hv3]at Wu;have Mp:=bx hv3;clear h3 hv3;go_wp2_with fail
    refine Wu.out.mono ?_;rintro e w1 ⟨rfl,hs1,hc1⟩;have Vs:=bx (Ge.out.next hs1 hc1);clear hs1 hc1 Wu Ge;go_wp2_with fail
    obtain⟨ga,hga⟩:∃ga,w1.heap.size=ga:=⟨_,rfl⟩;have Jk:=bx hga;have hzB:B≤ga:=by rw[←hga];exact Vs.out.z
    have Zj:=bx (Bk.newAt w1 43 #[.int .i64 v1,.int .i64 v2,.int .i64 v3,.slice none 0 0] hga);have Rj:=bx (Vs.out.alloc (.cells #[.int .i64 v1,.int .i64 v2,.int .i64 v3,.slice none 0 0] 43));have Yr:Bx (Ch w1 (w1.alloc (.cells #[.int .i64 v1,.int .i64 v2,.int .i64 v3,.slice none 0 0] 43)) (Two gs gr)):=bx ((Ch.refl w1).alloc _);rw[hga];generalize w1.alloc (.cells #[.int .i64 v1,.int .i64 v2,.int .i64 v3,.slice none 0 0] 43)=w2 at Zj Rj Yr ⊢;obtain⟨r4,h4⟩:∃r4,onR (stR r3) attsP b=r4:=⟨_,rfl⟩;have Vl:=bx (Y4b gs gr b (stR r3) w2 Rj.out.src);rw[h4]at Vl;have H4:=bx h4;clear hga h4;refine Vl.out.mono ?_;rintro e w4 ⟨V4,L4,rfl,har4,hl4,hx4⟩;have Ks:=bx har4;have Pp:=bx hx4;have Yg:=bx (Yr.out.trans har4.ch (fun _ _ h=>h));have Zk:=bx (Zj.out.ch har4.ch (fun h=>by have:=Rj.out.two ga h;omega));have Xl:=bx Zj.out.lt;have Yn:=bx har4.src;obtain⟨A4,c4,rfl,_,_⟩:=OwS.rd har4.own;obtain⟨n4,hn4⟩:∃n4,L4.length=n4:=⟨_,rfl⟩;rw[hn4]at Ks ⊢;clear har4 hx4 Vl Rj Yr Zj hn4;have hc40:w4.cell? ⟨ga,0,none⟩=some (.int .i64 v1):=(Zk.out.cell 0).trans rfl;have hc43:w4.cell? ⟨ga,3,none⟩=some (.slice none 0 0):=(Zk.out.cell 3).trans rfl;have hf43:=Zk.out.frz 3;go_upto_region 7 with(fail)
    have Zm:Bx (Bk (w4.setCell ⟨ga,3,none⟩ (.slice A4 n4 c4)) ga 43 #[.int .i64 v1,.int .i64 v2,.int .i64 v3,.slice A4 n4 c4]):=bx (by simpa using Zk.out.set 3 (.slice A4 n4 c4));have hb5:Below B w4 (w4.setCell ⟨ga,3,none⟩ (.slice A4 n4 c4)):=(Below.refl B w4).setCell hzB _;have Xi:Bx (Ch w1 (w4.setCell ⟨ga,3,none⟩ (.slice A4 n4 c4)) (Two gs gr)):=bx (Yg.out.setCell (fun h=>by rw[Jk.out]at h;exact absurd h (Nat.lt_irrefl _)) _);have Yf:=bx (Yn.out.low hb5 hgs hgr);have Pa:Bx (Ch w4 (w4.setCell ⟨ga,3,none⟩ (.slice A4 n4 c4)) (fun k=>k=ga)):=bx (Ch.setCell (S:=fun k=>k=ga) (p:=⟨ga,3,none⟩) (Ch.refl w4) (fun _=>rfl) _);generalize w4.setCell ⟨ga,3,none⟩ (.slice A4 n4 c4)=w5 at Zm Xi Yf Pa ⊢;have Bv:Bx (MmR w w5 B gs gr b (.slice AV nV cV) L (stR r4)):=bx (Vs.out.next Yf.out Xi.out);have Kt:=bx (Bv.out.alloc (.cells #[.int .i64 v1,.int .i64 v2,.int .i64 v3,.slice A4 n4 c4] 43));have Zd:=bx (RS.new (fC:=memC) w5 ⟨v1,v2,v3,A4,n4,c4,L4⟩ #[.int .i64 v1,.int .i64 v2,.int .i64 v3,.slice A4 n4 c4] rfl 43 (0,0));have Nz:=bx (Pa.out.alloc (.cells #[.int .i64 v1,.int .i64 v2,.int .i64 v3,.slice A4 n4 c4] 43))
    have Xr:Bx (MmX (w5.alloc (.cells #[.int .i64 v1,.int .i64 v2,.int .i64 v3,.slice A4 n4 c4] 43)) (Bel B (w5.alloc (.cells #[.int .i64 v1,.int .i64 v2,.int .i64 v3,.slice A4 n4 c4] 43)) (.slice AV nV cV)) ⟨v1,v2,v3,A4,n4,c4,L4⟩):=bx (MmX.fresh (S:=w2.heap.size) (Ks.out.own.ch Nz.out (fun k hk=>by have:=Xl.out;omega)) (Ks.out.sub.ch Nz.out (fun k hk=>by have:=Xl.out;omega)) rfl (by have:=Xl.out;omega) (fun k hk=>by
     have:=(Vs.out.lt k hk).2
     rw[Jk.out]at this
     have:=Xl.out
     omega))
    have Ts:Bx ((L.length+[(⟨v1,v2,v3,A4,n4,c4,L4⟩:MmE)].length)*48≤140737488355328):=bx (by simp only[Z11,Z13];omega);have hz6:B≤(w5.alloc (.cells #[.int .i64 v1,.int .i64 v2,.int .i64 v3,.slice A4 n4 c4] 43)).heap.size:=Kt.out.z;have hcc0:w5.cell? ⟨ga,0,none⟩=some (.int .i64 v1):=(Zm.out.cell 0).trans rfl;have hcc1:w5.cell? ⟨ga,1,none⟩=some (.int .i64 v2):=(Zm.out.cell 1).trans rfl;have hcc2:w5.cell? ⟨ga,2,none⟩=some (.int .i64 v3):=(Zm.out.cell 2).trans rfl;have hcc3:w5.cell? ⟨ga,3,none⟩=some (.slice A4 n4 c4):=(Zm.out.cell 3).trans rfl;have Pb:=bx (X6i Zi.out H1.out H2.out H3.out H4.out Pp.out);clear Vs Bv Yg Xi Zk Zm Yn Yf Ks Pp Xl hb5 hc40 hc43 hf43 Zi H1 H2 H3 H4 Pa Nz;go_wp2_with (at_builtin;refine Y9y _ memCels rfl (.tmp 29) (.tmp 31) rfl memTy (by decide) B (.slice AV nV cV) L rfl Kt.out.own (w5.heap.size+1) (some ⟨w5.heap.size,0,none⟩) 1 1 [⟨v1,v2,v3,A4,n4,c4,L4⟩] rfl rfl Zd.out Ts.out hz6 ?_;intro V7 w7 hO7 hg7 hv7 _;have Cu:=bx (Kt.out.app (x:=⟨v1,v2,v3,A4,n4,c4,L4⟩) Xr.out hO7 hg7 hv7 (Z32 HB.out)))
    have Ct:Bx (repR memP b ((L++[(⟨v1,v2,v3,A4,n4,c4,L4⟩:MmE)]).map MmE.p) (stR r4) m=R):=bx (by have e:=Pb.out;rw[Jl.out,Tc.out,Mp.out]at e;rw[Z34];exact e);clear hO7 hg7 hv7 Kt Xr Zd Pb Ts;go_roundw
    case rel=>exact⟨m,L++[⟨v1,v2,v3,A4,n4,c4,L4⟩],stR r4,by go_num,by rw[Z09];simp only[Z11,Z13];omega,Cu,Ct⟩
    case measure=>simp [intOf]
section
variable {P:Program} {ops:Array Oper} {md:Region.Mode} {Q:Exit→Act→World→Prop} {F:Nat→World}
def SameAt (P:Program) (o:Oper) (a:Act) (F:Nat→World) (v:Value):Prop:=∀n,Oper.quietUpon P (fun w'=>w'=F n) (F n) v ((execOp a.eval o).run P (F n))
def InRow (F:Nat→World) (w:World):Prop:=∃n,w=F n
def YldS (P:Program) (ops:Array Oper) (F:Nat→World) (o:Oper) (v:Value) (a:Act):Prop:=
 (Region.wanted o (yielded ops a.tmps)=true∧SameAt P o a F v)∨(Region.wanted o (yielded ops a.tmps)=false∧v=undef)
theorem Y1x {o:Oper} {a:Act} {v:Value} {K:Act→World→Prop} {n:Nat} (h:SameAt P o a F v) (hk:K (a.put o.dst v) (F n)):o.wp P a (F n) K Q:=by
 have h3:=h n;unfold Oper.wp;generalize (execOp a.eval o).run P (F n)=r at *;cases r with
 | ok x w'=>
  cases x <;> simp only[Oper.quietUpon]at h3 <;> simp only[Oper.upon]
  case value u=>obtain⟨e1,e2⟩:=h3;rw[e1,e2];exact hk
  case skip=>obtain⟨e1,e2⟩:=h3;rw[e1,←e2];exact hk
  case enter f args=>obtain⟨e1,hc⟩:=h3;rw[e1];exact hc.mono fun e w'' ⟨he,hw''⟩=>by subst he;subst hw'';exact hk
 | halt x w'=>simp only[Oper.quietUpon]at h3
theorem YldS.wpOp {i:Nat} {o:Oper} {v:Value} {a:Act} (hi:ops[i]? = some o) (hy:YldS P ops F o v a) {K:Act→World→Prop} {w:World} (hS:InRow F w) (h:K (a.put o.dst v) w):wpOp P ops Q i K a w:=by
 obtain⟨n,rfl⟩:=hS;unfold Go.wpOp;simp only[hi];rcases hy with⟨hw,hv⟩ | ⟨hw,rfl⟩
 ·simp only[hw,if_true];exact .inl (Y1x hv h)
 ·simp only[hw,Bool.false_eq_true,if_false];exact h
theorem YldS.of_same {o:Oper} {v:Value} {a a':Act} (hy:YldS P ops F o v a) (he:execOp a'.eval o=execOp a.eval o)
  (hw:Region.wanted o (yielded ops a'.tmps)=Region.wanted o (yielded ops a.tmps)):YldS P ops F o v a':=by
 unfold YldS SameAt at *;rw[he,hw];exact hy
theorem X2n {j:Nat} {oi oj:Oper} {v:Value} (hj:ops[j]? = some oj) (hap:oi.apart ops oj=true)
  (hsi:∀cs b,oi.op ≠ .select cs b) (hsj:∀cs b,oj.op ≠ .select cs b)
  (hQ:∀c a w d u,Q (.panic c) (a.put d u) w→Q (.panic c) a w) {K:Act→World→Prop} {a:Act} {w:World}
  (hy:YldS P ops F oi v a) (h:wpOp P ops Q j K (a.put oi.dst v) w) :
  wpOp P ops Q j (fun a' w'=>YldS P ops F oi v a'∧K (a'.put oi.dst v) w') a w:=by
 obtain⟨h1,h2,h3⟩:=Oper.apart_spec hap;have keep:∀(a:Act),YldS P ops F oi v a→∀u,YldS P ops F oi v (a.put oj.dst u):=fun a hy u=>hy.of_same (execOp_put oi hsi a oj.dst u h3) (wanted_put oi a oj.dst u h3);have keepD:∀d,YldS P ops F oi v { a with defers:=d::a.defers }:=fun d=>hy.of_same rfl rfl;unfold wpOp at *;simp only[hj]at *;rw[wanted_put oj a oi.dst v h1]at h
 split
 ·rename_i hw
  simp only[hw,if_true]at h;rcases h with h | ⟨hasks,hlets⟩
  case inr=>exact .inr ⟨by unfold Oper.asks at *;rw[execOp_put oj hsj a oi.dst v h1]at hasks;exact hasks,hlets⟩
  refine .inl ?_;unfold Oper.wp at *;rw[execOp_put oj hsj a oi.dst v h1]at h;generalize (execOp a.eval oj).run P w=r at *;cases r with
  | ok n w'=>
   cases n <;> simp only[Oper.upon]at h ⊢
   case value u=>exact⟨keep a hy u,by rw[←Act.put_comm a v u h2];exact h⟩
   case skip=>exact⟨keep a hy _,by rw[←Act.put_comm a v undef h2];exact h⟩
   case defer d=>refine⟨keep _ (keepD d) _,?_⟩;rw[←Act.put_comm _ v undef h2,←Act.put_defers];exact h
   case enter f args=>
    refine Calls.mono h fun e w'' he=>?_;cases e with
    | returned u=>exact⟨keep a hy u,by rw[←Act.put_comm a v u h2];exact he⟩
    | panicked c=>exact hQ _ _ _ _ _ he
    | outgrown=>exact he
   case row row args=>exact Rows.mono h fun u w'' he=>⟨keep a hy u,by rw[←Act.put_comm a v u h2];exact he⟩
  | halt x w'=>
   cases x <;> simp only[Oper.upon]at h ⊢
   case panic u=>exact hQ _ _ _ _ _ h
 ·rename_i hw
  simp only[hw]at h;exact⟨keep a hy _,by rw[←Act.put_comm a v undef h2];exact h⟩
theorem Y2i {i:Nat} {oi:Oper} {v:Value} (hi:ops[i]? = some oi) (hsel:∀(j:Nat) (o:Oper) cs b,ops[j]? = some o→o.op ≠ .select cs b)
  (hQ:∀c a w d u,Q (.panic c) (a.put d u) w→Q (.panic c) a w) :
  ∀(fuel:Nat) (listed:Array Bool) (a:Act) (w:World),
   (∀j oj,ops[j]? = some oj→j≠i→listed.getD j true=false→(∀e∈oj.after,Region.binds md e=true→e.on≠i)→oi.apart ops oj=true) →
   i∈Region.ready md ops listed→YldS P ops F oi v a→InRow F w →
   wpAnyH P md ops Q (InRow F) fuel (listed.setIfInBounds i true) (a.put oi.dst v) w→wpAnyH P md ops Q (InRow F) (fuel+1) listed a w:=by
 intro fuel
 induction fuel with
 | zero=>
  intro listed a w _ hr hy hS H;refine⟨fun h=>(by rw[h]at hr;cases hr),fun j hj=>?_⟩;by_cases hji:j=i
  ·subst hji;exact hy.wpOp hi hS ⟨hS,H⟩
  ·have:=ready_mono hj hji
   rw[H.1]at this;cases this
 | succ fuel ih=>
  intro listed a w hfree hr hy hS H;refine⟨fun h=>(by rw[h]at hr;cases hr),fun j hj=>?_⟩;by_cases hji:j=i
  ·subst hji;exact hy.wpOp hi hS ⟨hS,H⟩
  ·have h1:=H.2 j (ready_mono hj hji)
   obtain⟨hjun,oj,hoj,hall⟩:=mem_ready.1 hj
   have hnot:∀e∈oj.after,Region.binds md e=true→e.on≠i:=fun e he hb heq=>by
    have h1:=hall e he hb;have h0:=(mem_ready.1 hr).1;rw[heq]at h1;rcases Nat.lt_or_ge i listed.size with h' | h'
    ·simp [h']at h0 h1;rw[h0]at h1;cases h1
    ·simp [Array.getElem?_eq_none h']at h1
   have h2:=X2n hoj (hfree j oj hoj hji hjun hnot) (fun cs b=>hsel i oi cs b hi) (fun cs b=>hsel j oj cs b hoj) hQ hy h1
   have hfree':∀k ok,ops[k]? = some ok→k≠i→(listed.setIfInBounds j true).getD k true=false →
     (∀e∈ok.after,Region.binds md e=true→e.on≠i)→oi.apart ops ok=true:=fun k ok hk hki hun hno=>by
    refine hfree k ok hk hki ?_ hno;by_cases hjk:j=k
    ·subst hjk;exact hjun
    ·rw[getD_set_ne true hjk]at hun;exact hun
   refine wpOp_mono (fun a' w' h3=>⟨h3.2.1,ih (listed.setIfInBounds j true) a' w' hfree' (ready_mono hr (Ne.symm hji)) h3.1 h3.2.1 ?_⟩) h2;rw[Array.setIfInBounds_comm _ _ hji];exact h3.2.2
def wpSame (P:Program) (ops:Array Oper) (F:Nat→World) (R:Act→Prop):List Oper→Act→Prop
 | [],a=>R a
 | o::rest,a=>if Region.wanted o (yielded ops a.tmps) then ∃v,SameAt P o a F v∧wpSame P ops F R rest (a.put o.dst v) else wpSame P ops F R rest (a.put o.dst undef)
theorem X8a {R:Act→Prop} {a:Act} (h:R a):wpSame P ops F R [] a:=h
theorem Y0s {R:Act→Prop} {a:Act} {o:Oper} {rest:List Oper}
  (h:∀K:Act→Prop,(∀a,wpSame P ops F R rest a→K a)→if Region.wanted o (yielded ops a.tmps) then ∃v,SameAt P o a F v∧K (a.put o.dst v) else K (a.put o.dst undef)):wpSame P ops F R (o::rest) a:=
 h _ (fun _ h=>h)
def qHeadB (md:Region.Mode) (ops:Array Oper):Nat→Nat→Array Bool→Bool
 | 0,_,_=>true
 | c+1,i,l=>Region.free md ops l i&&(Region.ready md ops l).contains i&&qHeadB md ops c (i+1) (l.setIfInBounds i true)
def marks:Nat→Nat→Array Bool→Array Bool
 | 0,_,l=>l
 | c+1,i,l=>marks c (i+1) (l.setIfInBounds i true)
theorem Y1f (hs:Region.noSelect ops=true) (hQ:∀c a w d u,Q (.panic c) (a.put d u) w→Q (.panic c) a w) {f:Nat} {w:World} (hS:InRow F w) :
  ∀(c i:Nat) (listed:Array Bool) (a:Act) (rest:List Oper),(∀j,j<c→ops[i+j]? = rest[j]?)→rest.length=c→qHeadB md ops c i listed=true →
   wpSame P ops F (fun a'=>wpAnyH P md ops Q (InRow F) f (marks c i listed) a' w) rest a→wpAnyH P md ops Q (InRow F) (f+c) listed a w:=by
 intro c
 induction c with
 | zero=>
  intro i listed a rest _ hl _ h
  have:rest=[]:=Z36 hl
  subst this;exact h
 | succ c ih=>
  intro i listed a rest ho hl hb h;cases rest with
  | nil=>cases hl
  | cons o rest=>
   simp only[qHeadB,Z20]at hb;obtain⟨⟨h1,h2⟩,h3⟩:=hb;have hi:ops[i]? = some o:=by have:=ho 0 (by omega);simpa using this
   have ho':∀j,j<c→ops[i+1+j]? = rest[j]? := fun j hj=>by
    have:=ho (j+1) (by omega)
    rw[show i+1+j=i+(j+1) by omega,this];rfl
   have hl':rest.length=c:=(by simpa using hl);have key:∀v,YldS P ops F o v a→wpSame P ops F (fun a'=>wpAnyH P md ops Q (InRow F) f (marks c (i+1) (listed.setIfInBounds i true)) a' w) rest (a.put o.dst v)→wpAnyH P md ops Q (InRow F) (f+(c+1)) listed a w:=fun v hy hk=>by rw[←Nat.add_assoc];exact Y2i hi (Region.noSelect_spec hs) hQ _ _ _ _ (Region.free_spec hi h1) (by simpa using h2) hy hS (ih (i+1) _ _ rest ho' hl' h3 hk)
   unfold wpSame at h;by_cases hw:Region.wanted o (yielded ops a.tmps)=true
   ·simp only[hw,if_true]at h
    obtain⟨v,hv,hk⟩:=h;exact key v (.inl ⟨hw,hv⟩) hk
   ·simp only[hw]at h
    exact key undef (.inr ⟨by simpa using hw,rfl⟩) h
def wpChain (P:Program) (ops:Array Oper) (F:Nat→World) (Q:Exit→Act→World→Prop):List Oper→Act→World→Prop
 | [],a,w=>Q .normal a w
 | o::rest,a,w=>if Region.wanted o (yielded ops a.tmps) then o.wp P a w (fun a' w'=>InRow F w'∧wpChain P ops F Q rest a' w') Q else InRow F w∧wpChain P ops F Q rest (a.put o.dst undef) w
theorem Y1d {a:Act} {w:World} (h:Q .normal a w):wpChain P ops F Q [] a w:=h
theorem Y5x {o:Oper} {rest:List Oper} {a:Act} {w:World} (hg:o.guard=none)
  (h:∀K:Act→World→Prop,(∀a w,InRow F w→wpChain P ops F Q rest a w→K a w)→o.wp P a w K Q):wpChain P ops F Q (o::rest) a w:=by
 unfold wpChain;rw[if_pos (by simp [Region.wanted,hg])];exact h _ fun _ _ h1 h2=>⟨h1,h2⟩
def chainB (md:Region.Mode) (ops:Array Oper):Nat→Nat→Array Bool→Bool
 | 0,_,l=>(Region.ready md ops l).isEmpty
 | c+1,i,l=>Region.ready md ops l==[i]&&chainB md ops c (i+1) (l.setIfInBounds i true)
theorem Y1z:∀(c i:Nat) (listed:Array Bool) (a:Act) (w:World) (rest:List Oper),(∀j,j<c→ops[i+j]? = rest[j]?)→rest.length=c→chainB md ops c i listed=true →
  wpChain P ops F Q rest a w→wpAnyH P md ops Q (InRow F) c listed a w:=by
 intro c
 induction c with
 | zero=>
  intro i listed a w rest _ hl hb h
  have:rest=[]:=Z36 hl
  subst this;exact wpAnyH_done (by simpa [chainB] using hb) h _
 | succ c ih=>
  intro i listed a w rest ho hl hb h;cases rest with
  | nil=>cases hl
  | cons o rest=>
   simp only[chainB,Z20,beq_iff_eq]at hb;have hi:ops[i]? = some o:=by have:=ho 0 (by omega);simpa using this
   have ho':∀j,j<c→ops[i+1+j]? = rest[j]? := fun j hj=>by
    have:=ho (j+1) (by omega)
    rw[show i+1+j=i+(j+1) by omega,this];rfl
   have hl':rest.length=c:=(by simpa using hl);refine wpAnyH_all hb.1 (by simp) fun k hk=>?_
   have:k=i:=by simpa using hk
   subst this;unfold wpChain at h;unfold wpOp;simp only[hi];by_cases hw:Region.wanted o (yielded ops a.tmps)=true
   ·simp only[hw,if_true]at h ⊢
    exact .inl (Oper.wp_mono (fun a' w' h'=>⟨h'.1,ih (k+1) _ _ _ rest ho' hl' hb.2 h'.2⟩) h)
   ·simp only[hw]at h ⊢
    exact⟨h.1,ih (k+1) _ _ _ rest ho' hl' hb.2 h.2⟩
theorem Y4t {id:Nat} {a:Act} {w:World} {l:List Oper} (n:Nat) (F:Nat→World) (hm:P.follows .mixedOrders=true) (hs:Region.noSelect l.toArray=true)
  (hB:qHeadB .any l.toArray n 0 (Array.replicate l.toArray.size false)=true) (hC:chainB .any l.toArray (l.length-n) n (marks n 0 (Array.replicate l.toArray.size false))=true) (hn:n≤l.length) (hS:w.drew=F 0) (hQ:∀c a w d u,Q (.panic c) (a.put d u) w→Q (.panic c) a w)
  (h:wpSame P l.toArray F (fun a'=>wpChain P l.toArray F Q (l.drop n) a' (F 0)) (l.take n) a):(Code.region id l.toArray true).wp P Q a w:=by
 rw[←hS]at h;have hS':InRow F w.drew:=⟨0,hS⟩;refine wp_region_held_drew (S:=InRow F) hm hS' (fun _=>?_)
 have hmono:∀(rest:List Oper) (a:Act),wpSame P l.toArray F (fun a'=>wpChain P l.toArray F Q (l.drop n) a' w.drew) rest a →
   wpSame P l.toArray F (fun a'=>wpAnyH P .any l.toArray Q (InRow F) (l.length-n) (marks n 0 (Array.replicate l.toArray.size false)) a' w.drew) rest a:=by
  intro rest
  induction rest with
  | nil=>intro a h;exact Y1z (l.length-n) n _ a w.drew (l.drop n) (fun j hj=>by simp) (by simp) hC h
  | cons o rest ih=>
   intro a h;unfold wpSame at h ⊢
   split
   ·rename_i hw
    simp only[hw,if_true]at h;obtain⟨v,hv,hk⟩:=h;exact⟨v,hv,ih _ hk⟩
   ·rename_i hw
    simp only[hw]at h;exact ih _ h
 have:=Y1f (md := .any) (f:=l.length-n) hs hQ hS' n 0 (Array.replicate l.toArray.size false) a (l.take n) (fun j hj=>by simp [hj]) (by simp;omega) hB (hmono _ _ h)
 rwa [show l.length-n+n=l.toArray.size by simp;omega]at this
end
open Go.RowKit
theorem W7i {α β:Type} (f:List Cst→α→List Cst×List β):∀(l m:List α) (P:List Cst),rowK f P (l++m)=((rowK f (rowK f P l).1 m).1,(rowK f P l).2++(rowK f (rowK f P l).1 m).2):=by
 intro l m
 induction l with
 | nil=>intro P;rfl
 | cons x r ih=>
  intro P;show ((rowK f (f P x).1 (r++m)).1,(f P x).2++(rowK f (f P x).1 (r++m)).2)=_;rw[ih];show (_,(f P x).2++((rowK f (f P x).1 r).2++_))=(_,((f P x).2++(rowK f (f P x).1 r).2)++_);rw[List.append_assoc]
  rfl
theorem Y7b {α β:Type} (f:List Cst→α→List Cst×List β) {l:List α} {j:Nat} {x:α} (P:List Cst) (h:l[j]? = some x):rowK f P (l.take (j+1))=((f (rowK f P (l.take j)).1 x).1,(rowK f P (l.take j)).2++(f (rowK f P (l.take j)).1 x).2):=by
 have e:l.take (j+1)=l.take j++[x]:=by rw[Z40,h];rfl
 rw[e,W7i];show (_,_++(_++[]))=_;rw[Z14]
 rfl
theorem Y6p {α β:Type} (f:List Cst→α→List Cst×List β) {l:List α} {j:Nat} (P:List Cst) (h:l.length≤j):rowK f P (l.take j)=rowK f P l:=by rw[Z15 h]
theorem Y7h {α β:Type} {f:List Cst→α→List Cst×List β} {K B:Nat}:∀(l:List α) (P:List Cst),(∀x∈l,∀P,(f P x).1.length≤P.length+K∧(f P x).2.length≤B)→(rowK f P l).1.length≤P.length+K*l.length∧(rowK f P l).2.length≤B*l.length:=by
 intro l
 induction l with
 | nil=>intro P _;exact⟨Z00 _,Z00 _⟩
 | cons x r ih=>intro P h;have h1:=h x (by simp) P;have h2:=ih (f P x).1 (fun y hy=>h y (by simp [hy]));show (rowK f (f P x).1 r).1.length≤_∧((f P x).2++(rowK f (f P x).1 r).2).length≤_;rw[Z09,Z11,Nat.mul_add,Nat.mul_add];omega
theorem X2y (P:List Cst) (x:Cst):(putK P x).1.length≤P.length+1∧P.length≤(putK P x).1.length:=by
 unfold putK
 split
 ·exact⟨by show P.length≤_;omega,Z00 _⟩
 ·show (P++[x]).length≤_∧_≤(P++[x]).length
  rw[Z09];simp
theorem W9i (P:List Cst) (x:Cst):(putK P x).2≤P.length:=by
 unfold putK
 split
 ·rename_i i h
  unfold idxK at h
  have:=(List.findIdx?_eq_some_iff_getElem.1 h).1
  rw[List.length_drop]at this;show i+1≤_;omega
 ·exact Z00 _
theorem Y8t (P:List Cst) (s:List UInt8):(ptxK P s).1.length≤P.length+1∧P.length≤(ptxK P s).1.length:=X2y _ _
theorem W5n (P:List Cst) (s:List UInt8):(ptxK P s).2≤P.length:=W9i _ _
theorem Y6e (P:List Cst) (s:List UInt8):(pclK P s).1.length≤P.length+2∧P.length≤(pclK P s).1.length:=by
 have h1:=Y8t P s;have h2:=X2y (ptxK P s).1 ⟨7,(ptxK P s).2,0,0,[]⟩;unfold pclK;omega
theorem X4m (P:List Cst) (s:List UInt8):(pclK P s).2≤P.length+1:=by
 have h1:=Y8t P s;have h2:=W9i (ptxK P s).1 ⟨7,(ptxK P s).2,0,0,[]⟩;unfold pclK;omega
theorem W6i (P:List Cst) (t:Vt):(mvtK P t).1.length≤P.length+2∧(mvtK P t).2.length≤3:=by
 have h:=Y6e P t.name;unfold mvtK
 split
 ·refine⟨h.1,?_⟩
  simp [beB_len]
 ·split
  ·refine⟨by show P.length≤_;omega,?_⟩
   simp [beB_len]
  ·refine⟨by show P.length≤_;omega,?_⟩
   simp [beB_len]
theorem Y3k (P:List Cst) (l:List Vt):(rowK mvtK P l).1.length≤P.length+2*l.length∧(rowK mvtK P l).2.length≤3*l.length:=Y7h l P (fun x _ P=>W6i P x)
def FrS (f:Frm):Prop:=f.locals.length≤64∧f.stack.length≤64
theorem W7y (P:List Cst) (f:Frm) (h:FrS f):(mfrK P f).1.length≤P.length+256∧(mfrK P f).2.length≤400:=by
 obtain⟨h1,h2⟩:=h;have a:=Y3k P f.locals;have b:=Y3k (rowK mvtK P f.locals).1 f.stack
 have c:(beB 1 f.tag++(if 247≤f.tag then beB 2 f.delta else [])).length≤3:=by
  rw[Z09,beB_len]
  split
  ·rw[beB_len];omega
  ·simp
 simp only[Z09,beB_len]at c;unfold mfrK;dsimp only
 split
 ·refine⟨by show (rowK mvtK (rowK mvtK P f.locals).1 f.stack).1.length≤_;omega,?_⟩
  simp only[Z09,beB_len];omega
 ·refine⟨by show (rowK mvtK (rowK mvtK P f.locals).1 f.stack).1.length≤_;omega,?_⟩
  simp only[Z09,beB_len];omega
theorem Y3s (P:List Cst) (l:List Frm) (h:∀f∈l,FrS f):(rowK mfrK P l).1.length≤P.length+256*l.length∧(rowK mfrK P l).2.length≤400*l.length:=Y7h l P (fun x hx P=>W7y P x (h x hx))
theorem X3w (P:List Cst) (h:Hnd):(mhnK P h).1.length≤P.length+2∧(mhnK P h).2.length≤8:=by
 have h1:=Y6e P h.name;unfold mhnK;dsimp only;refine⟨?_,by rw[Z09,Z09,Z09,beB_len,beB_len,beB_len,beB_len];omega⟩
 split
 ·show P.length≤_;omega
 ·exact h1.1
theorem Y3a (P:List Cst) (l:List Hnd):(rowK mhnK P l).1.length≤P.length+2*l.length∧(rowK mhnK P l).2.length≤8*l.length:=Y7h l P (fun x _ P=>X3w P x)
def MtS (m:Mth):Prop:=(m.code.length≤4096∧m.handlers.length≤64∧m.frames.length≤256)∧∀f∈m.frames,FrS f
theorem W8e (P:List Cst) (m:Mth) (h:MtS m):(mcdK P m).1.length≤P.length+70000∧(mcdK P m).2.length≤120000:=by
 obtain⟨⟨h1,h2,h3⟩,h4⟩:=h;have a:=Y3a P m.handlers;have b:=Y8t (rowK mhnK P m.handlers).1 smtN;have c:=Y3s (ptxK (rowK mhnK P m.handlers).1 smtN).1 m.frames h4;unfold mcdK;dsimp only
 split
 ·refine⟨by show (rowK mhnK P m.handlers).1.length≤_;omega,?_⟩
  simp only[Z09,beB_len];omega
 ·refine⟨by show (rowK mfrK _ m.frames).1.length≤_;omega,?_⟩
  simp only[Z09,beB_len];omega
theorem X5h (P:List Cst) (f:Fld):(mflK P f).1.length≤P.length+3∧(mflK P f).2.length≤1:=by
 have a:=Y8t P f.name;have b:=Y8t (ptxK P f.name).1 f.desc;have c:=Y8t (ptxK (ptxK P f.name).1 f.desc).1 cvN;unfold mflK;dsimp only
 split
 ·exact⟨by show (ptxK _ f.desc).1.length≤_;omega,Z00 _⟩
 ·exact⟨by show (ptxK _ cvN).1.length≤_;omega,Z00 _⟩
theorem W6g (P:List Cst) (m:Mth) (h:MtS m):(mmtK P m).1.length≤P.length+70003∧(mmtK P m).2.length≤1:=by
 have a:=Y8t P m.name;have b:=Y8t (ptxK P m.name).1 m.desc;have c:=Y8t (ptxK (ptxK P m.name).1 m.desc).1 cdN;have d:=W8e (ptxK (ptxK (ptxK P m.name).1 m.desc).1 cdN).1 m h;unfold mmtK;dsimp only
 split
 ·exact⟨by show (ptxK _ m.desc).1.length≤_;omega,Z00 _⟩
 ·exact⟨by show (mcdK _ m).1.length≤_;omega,Z00 _⟩
theorem X4u (P:List Cst) (s:List UInt8):(mifK P s).1.length≤P.length+2∧(mifK P s).2.length≤1:=⟨(Y6e P s).1,Z00 _⟩
theorem X2q {c:Cls} {pool:List Cst} (h:fitsK c pool=true):(pool.length≤1024∧c.ifaces.length≤64∧c.fields.length≤64∧c.methods.length≤64)∧∀m∈c.methods,MtS m:=by
 unfold fitsK at h;rw[Z20,Z31]at h;refine⟨Z49 h.1,fun m hm=>?_⟩;have h1:=h.2 m hm;rw[Z20,Z31]at h1;exact⟨Z49 h1.1,fun f hf=>by have h9:=Z49 (h1.2 f hf);exact h9⟩
open Go.RowKit
section
variable {P:Program} (w:World)
theorem Y2u {t u e e':TypeId} (ty:TypeId) (ht:P.underlying t=some (.slice e)) (hu:P.underlying u=some (.slice e')) (a b:Value) :
  (Builtin.append_ #[t,u] ty #[a,b]).run P w=(Builtin.append_ #[t,t] ty #[a,b]).run P w:=by
 unfold Builtin.append_;cases a <;> simp only[Z19,List.getElem?_cons_zero,Z21,Sem.run_bind,Sem.run_pure,run_underlying ht,run_underlying hu,Result.andThen_ok]
theorem Y5q {α:Type} {f:α→Value} (hf:∀x,(f x).oneCell'=true) {ops:Array Oper} {rest:List Oper} {o:Oper} {a:Act} {Q:Exit→Act→World→Prop} (hgd:o.guard=none) (s x:Operand) {t u e:TypeId} {z:Value} {bytes:Nat}
  (ho:o.op = .call { callee := .builtin .append,args:=#[s,x],argTypes:=#[t,u] }) (hE:ETy P t e z 1 bytes) (hu:P.underlying u=some (.slice e)) (hby:0<bytes)
  (base:Nat) (v:Value) (l:List α) (hs:a.eval s=v) (hown:OwL f w base e v l)
  (B:Nat) (A:Option Addr) (m c:Nat) (news:List α) (hx:a.eval x = .slice A m c) (hl:news.length=m) (hr:RL f w B A news)
  (hn:(l.length+news.length)*bytes≤140737488355328) (hbase:base≤w.heap.size)
  (h:∀v' w',OwL f w' base e v' (l++news)→w.grownBy w' v.ownBlock→(v'.ownBlock=v.ownBlock∨v'.ownBlock=some w.heap.size)→Below base w w'→wpList P ops Q rest (a.put o.dst v') w'):wpList P ops Q (o::rest) a w:=
 wpList_plain hgd fun K hK=>by obtain⟨i,hi,hz,hsz,hb⟩:=hE.info;subst hl;have hm:(l.length+news.length)*1≤(l.length+news.length)*bytes:=Nat.mul_le_mul (Z00 _) hby;obtain⟨v',w',hrun,h2,h3,h4⟩:=Y7k (P:=P) w base t o.type e i z 1 bytes hE.sl hi hz hsz hb hE.cells hE.pos v l.length (l.map f) hown B A news.length c (news.map f) (by simp) hr (Y5a hf _) (by unfold maxLen;omega) hn hbase;rw[←Y2u w o.type hE.sl hu]at hrun;unfold Oper.wp execOp;simp only[ho,resolve,invoke,builtin,Sem.run_bind,Sem.run_pure,Result.andThen_ok,List.map_toArray,List.map_cons,List.map_nil,hs,hx,hrun];exact hK _ _ (h v' w' (by unfold OwL;rw[Z09,Z34];exact h2) h3 h4 ((Below.refl _ _).grown h3 hbase fun k hk=>(World.ownsRow.lt hown k hk).1))
end
open Go.RowKit
theorem X3f (n:Nat) (v:Int) (w:World) (h1:1≤n) (h2:n≤8) :
  Calls Tryd.prog 21 #[.int .i64 n,.int .i64 v] w fun e w'=>∃r,e = .returned r∧OwB w' w.heap.size 5 r (leB n v).reverse∧Below w.heap.size w w':=by
 obtain⟨i0,hi,hz0,hz1,hz2⟩:=info_parts u8_infoP
 go_enter Tryd.func21,Tryd.ntmps21
 go_wp2_with (at_make;refine wpList_make_full _ rfl _ _ _ rfl w.heap.size 5 i0 (.int .u8 0) 1 Tryd.underlying28 hi hz0 hz1 .i64 .i64 _ _ n rfl rfl rfl rfl (by rw[hz2];omega) (by unfold maxLen;omega) (Z00 _) ?_)
 intro w1 hown hg;have hb1:Below w.heap.size w w1:=(Below.refl _ _).grown hg (Z00 _) (by simp);have hown0:OwB w1 w.heap.size 5 (.slice (some ⟨w.heap.size,0,none⟩) n n) (List.replicate n 0):=OwL.made (f:=bV) (z:=0) hown;clear hown hg;go_wp2
 go_loopw [6,17] (fun _ i wr=>∃k:Nat,k≤n∧i = .int .i64 (k:Int)∧OwB wr w.heap.size 5 (.slice (some ⟨w.heap.size,0,none⟩) n n) (List.replicate (n-k) 0++((leB n v).take k).reverse)∧Below w.heap.size w wr) (fun _ i _=>n-(intOf i).toNat)
 case atStart=>exact⟨0,by omega,rfl,by simpa using hown0,hb1⟩
 case round=>
  obtain⟨k,hk,rfl,hown1,hb⟩:=hrel;by_cases hk0:k<n
  ·have hc:=hown1.cell (X0e hk0)
   have hf:=hown1.frz (n-1-k);have e1:((n:Int)-1-(k:Int)).toNat=n-1-k:=(by omega);have S:=Lib.hid (hown1.set (n-1-k) (UInt8.ofNat ((v % 18446744073709551616).toNat / 256 ^ k)));go_wp2;go_roundw
   case rel=>refine⟨k+1,by omega,by go_num,?_,hb.setCell (Z00 _) _⟩;rw[W9y,←X1w hk0 (W6z v hk0)];exact S.out
   case measure=>simp [intOf];omega
  ·obtain rfl:k=n:=by omega
   go_wp2;go_ret;refine⟨_,rfl,?_,hb⟩;rw[Z15 (by rw[X5z];omega),Nat.sub_self,List.replicate_zero,Z28]at hown1;exact hown1
open Go.RowKit
theorem X1g (n:Nat) (v:Int) (w:World) (h1:1≤n) (h2:n≤8) :
  Calls Tryd.prog 21 #[.int .i64 n,.int .i64 v] w fun e w'=>∃r,e = .returned r∧OwB w' w.heap.size 5 r (beB n v)∧Below w.heap.size w w':=X3f n v w h1 h2
theorem X4x (n:Nat) (xs:List Int):(xs.flatMap (beB n)).length=n*xs.length:=by
 induction xs with
 | nil=>simp
 | cons x r ih=>rw[Z27,Z09,beB_len,ih,Z11,Nat.mul_add];omega
open Go.RowKit
section
variable {P:Program} {ops:Array Oper} {Q:Exit→Act→World→Prop}
def OpAns (P:Program) (o:Oper) (ev:Operand→Value) (w:World) (R:Value→World→Prop):Prop:=
 match (execOp ev o).run P w with
 | .ok (.value v) w'=>R v w'
 | .ok .skip w'=>R undef w'
 | .ok (.enter f args) w'=>Calls P f args w' fun e w''=>∃v,e = .returned v∧R v w''
 | .ok (.row row args) w'=>Rows P row args w' fun v w''=>R v w''
 | _=>False
theorem OpAns.mono {o:Oper} {ev:Operand→Value} {w:World} {R R':Value→World→Prop} (h:OpAns P o ev w R) (hR:∀v w',R v w'→R' v w'):OpAns P o ev w R':=by
 unfold OpAns at *;generalize (execOp ev o).run P w=r at *;cases r with
 | ok n w'=>
  cases n <;> simp only at h ⊢
  case value v=>exact hR _ _ h
  case skip=>exact hR _ _ h
  case enter f args=>exact h.mono fun e w'' ⟨v,he,hv⟩=>⟨v,he,hR _ _ hv⟩
  case row row args=>exact Rows.mono h fun v w'' hv=>hR _ _ hv
 | halt x w'=>exact h
theorem W9r {j:Nat} {o:Oper} (hj:ops[j]? = some o) (hg:o.guard=none) {a:Act} {w:World} {K:Act→World→Prop} (h:OpAns P o a.eval w (fun v w'=>K (a.put o.dst v) w')):wpOp P ops Q j K a w:=by
 unfold wpOp;simp only[hj];rw[if_pos (by simp [Region.wanted,hg])];refine .inl ?_;unfold Oper.wp;unfold OpAns at h;generalize (execOp a.eval o).run P w=r at *;cases r with
 | ok n w'=>
  cases n <;> simp only[Oper.upon]at h ⊢
  case value v=>exact h
  case skip=>exact h
  case enter f args=>exact h.mono fun e w'' ⟨v,he,hv⟩=>by subst he;exact hv
  case row row args=>exact Rows.mono h fun v w'' hv=>hv
 | halt x w'=>exact h.elim
theorem X3g (I:(Nat→Bool)→Act→World→Prop)
  (htop:∀j o,ops[j]? = some o→∀e∈o.after,Region.binds .any e=true→e.on<j)
  (hstep:∀(d:Nat→Bool) (j:Nat) (o:Oper) (a:Act) (w:World),ops[j]? = some o→d j=false→(∀i,ops.size≤i→d i=false)→(∀e∈o.after,Region.binds .any e=true→d e.on=true)→I d a w →
   wpOp P ops Q j (fun a' w'=>I (fun i=>d i||i==j) a' w') a w)
  (hend:∀(d:Nat→Bool) (a:Act) (w:World),(∀j,j<ops.size→d j=true)→I d a w→Q .normal a w) :
  ∀(fuel:Nat) (listed:Array Bool) (a:Act) (w:World),listed.size=ops.size→(∀L:List Nat,L.Nodup→(∀i∈L,listed.getD i true=false)→L.length≤fuel)→I (fun i=>listed.getD i false) a w →
   wpAny P .any ops Q fuel listed a w:=by
 have none:∀listed:Array Bool,listed.size=ops.size→Region.ready .any ops listed=[]→∀j,j<ops.size→listed.getD j false=true:=by
  intro listed hs hr j
  induction j using Nat.strongRecOn with
  | _ j ih=>
   intro hj;cases hb:listed.getD j false with
   | true=>rfl
   | false=>
    exfalso
    have:j∈Region.ready .any ops listed:=by
     unfold Region.ready;rw[List.mem_filter];refine⟨Z39.2 hj,?_⟩;have h1:listed.getD j true=false:=by have hj':j<listed.size:=(by omega);simp [Array.getD,hj']at hb ⊢;exact hb
     rw[h1,Array.getElem?_eq_getElem hj];simp only[Bool.not_false,Z25,Option.map_some,Option.getD_some,Array.all_eq_true_iff_forall_mem];intro e he;cases hbd:Region.binds .any e with
     | false=>rfl
     | true=>have hlt:=htop j _ (Array.getElem?_eq_getElem hj) e he hbd;rw[ih _ hlt (by omega)];rfl
    rw[hr]at this;cases this
 intro fuel
 induction fuel with
 | zero=>
  intro listed a w hs hL hI
  have hd:∀j,j<ops.size→listed.getD j false=true:=by
   intro j hj;cases hb:listed.getD j false with
   | true=>rfl
   | false=>
    have hj':j<listed.size:=by omega
    have:=hL [j] (by simp) (by intro i hi;simp at hi;subst hi;simp [Array.getD,hj']at hb ⊢;exact hb)
    simp at this
  refine⟨?_,hend _ a w hd hI⟩;unfold Region.ready;rw[List.filter_eq_nil_iff];intro i hi;have hi:=Z39.1 hi;have h1:=hd i hi;have hi':i<listed.size:=(by omega);simp [Array.getD,hi']at h1;simp [Array.getD,hi',h1]
 | succ fuel ih=>
  intro listed a w hs hL hI;refine⟨fun hr=>hend _ a w (none listed hs hr) hI,fun j hj=>?_⟩;obtain⟨h0,o,ho,hall⟩:=mem_ready.1 hj;have hjn:j<ops.size:=(Array.getElem?_eq_some_iff.1 ho).1;have hjl:j<listed.size:=(by omega);have hf:listed.getD j false=false:=by simp [Array.getD,hjl]at h0 ⊢;exact h0
  refine wpOp_mono (fun a' w' h=>ih (listed.setIfInBounds j true) a' w' (by simpa using hs) ?_ ?_) (hstep (fun i=>listed.getD i false) j o a w ho hf (fun i hi=>by simp [Array.getD,show ¬i<listed.size by omega]) (fun e he hb=>hall e he hb) hI)
  ·intro L hn hm
   have hjL:j ∉ L:=fun h=>by
    have:=hm j h
    simp [Array.getD,hjl]at this
   have:=hL (j::L) (List.nodup_cons.2 ⟨hjL,hn⟩) (fun i hi=>by
    rcases Z23.1 hi with e | e
    ·subst e;exact h0
    ·have h2:=hm i e
     by_cases hij:j=i
     ·subst hij;exact h0
     ·rwa [getD_set_ne true hij]at h2)
   simp at this;omega
  ·have e:(fun i=>(listed.setIfInBounds j true).getD i false)=fun i=>listed.getD i false||i==j:=by
    funext i
    by_cases hij:j=i
    ·subst hij;simp [Array.getD,hjl]
    ·have hij':(i==j)=false:=by simp;omega
     rw[hij',Bool.or_false];exact getD_set_ne false hij
   rw[e];exact h
end
open Go.ChangeShapes Go.WideShapes Go.ChangeAt Go.RowKit
def SlOk (w:World) (x:Sl):Prop:=x.l.length=x.n∧x.n≤x.c∧(x.c:Int)≤9223372036854775807∧RB w w.heap.size x.A x.l
section
variable {H:Type} {enc:TypeId×Value→H} {P:Program} {w:World} {base:Nat} {spare:Nat→Bool} {held:Bool}
theorem X0c {t e:TypeId} {v:Value} {n:Nat} {y:DataW H×List MemPlace} (ht:P.underlying t=some (.slice e)) (he:P.underlying e=some (.int .u8)) (hc:P.cellsOf e=1)
  (hf:DataW.trod enc P w base spare held n t [v]=some y):∃x,v=slV x∧SlOk w x:=by
 rcases open_ints ht he hc hf with⟨hcs,hx⟩ | ⟨x,l,c',zs,hcs,_,hl,hm,hz,hx,hcell,hwz⟩
 ·simp at hcs
  subst hcs;exact⟨⟨none,0,0,[]⟩,rfl,rfl,Z00 _,by show ((0:Nat):Int)≤_;omega,Rd.nil⟩
 ·simp at hcs
  subst hcs;have hzl:l≤zs.length:=by rw[hz];split <;> omega
  refine⟨⟨some x,l,c',(zs.take l).map fun q=>UInt8.ofNat q.toNat⟩,rfl,by simp;omega,hl,by unfold maxLen at hm;show (c':Int)≤_;omega,fun hne=>?_⟩
  have key:∀i u,(((zs.take l).map fun q=>UInt8.ofNat q.toNat).map bV)[i]? = some u→w.cell? (x.add i)=some u:=by
   intro i u hu
   have hi:i<l:=by
    have:=(Z24.1 hu).1
    simp at this;omega
   have hiz:i<zs.length:=(by omega);rw[hcell i hiz];have hw:=hwz zs[i] (List.getElem_mem hiz);have hb:=bounds_u8 hw;rw[←hu];simp only[List.getElem?_map,List.getElem?_take_of_lt hi,Z33 hiz,Option.map_some,List.getD,Option.getD_some,bV,UInt8.toNat_ofNat']
   congr 2
   omega
  refine⟨x,rfl,?_,key⟩;obtain⟨u,us,hq⟩:=List.exists_cons_of_ne_nil hne
  have:=World.block_lt_of_cell? _ _ (key 0 u (by rw[hq];rfl))
  rwa [blk_add]at this
end
open Go.ChangeShapes Go.WideShapes Go.ChangeAt Go.RowKit
open Go.Deep (open_slice choose_lt hone_of oneCellFields)
section
variable {H:Type} {enc:TypeId×Value→H} {P:Program} {w:World} {base:Nat} {spare:Nat→Bool} {held:Bool}
theorem W6e {α:Type} [Inhabited α] {t e:TypeId} {v:Value} (size:Nat) (F:α→List Value) (Q:α→DataW H→Prop) (ht:P.underlying t=some (.slice e)) (hC:P.cellsOf e=size) (hpos:0<size)
  (hF:∀x,(F x).length=size)
  (hel:∀(n:Nat) (cs:List Value) (y:DataW H×List MemPlace),cs.length=size→DataW.trod enc P w base spare held n e cs=some y→∃x,cs=F x∧Q x y.1)
  {m0:Nat} {y0:DataW H×List MemPlace} (hf:DataW.trod enc P w base spare held m0 t [v]=some y0) :
  ∃(A:Option Addr) (n c:Nat) (l:List α),v = .slice A n c∧l.length=n∧n≤c∧(c:Int)≤9223372036854775807∧Rd w w.heap.size A (l.flatMap F) ∧
   ((y0.1 = .nil∧l=[])∨∃es sp,y0.1 = .slice es sp∧es.length=n∧∀(i:Nat) (x:α) (y:DataW H),l[i]? = some x→es[i]? = some y→Q x y):=by
 rcases open_slice ht hf with⟨hcs,hx⟩ | ⟨a,len,cap,m,n',D,Pl,hcs,_,hl,hm,hmm,hx,hi⟩
 ·simp at hcs
  subst hcs;subst hx;exact⟨none,0,0,[],rfl,rfl,Z00 _,by omega,Rd.nil,.inl ⟨rfl,rfl⟩⟩
 ·simp at hcs
  subst hcs;subst hx;rw[hC]at hi;have hlm:len≤m:=by rw[hmm];split <;> omega
  obtain⟨X,hX⟩:=choose_lt (n:=len) (α:=α) (p:=fun i x=>(∃cs',w.cells? base (a.add (i*size)) size=some cs'∧cs'=F x)∧Q x (D i)) (fun i hin=>by obtain⟨cs',h1,h2⟩:=hi i (by omega);obtain⟨_,hlen,_⟩:=World.cells?_some h1;obtain⟨x,hx1,hx2⟩:=hel _ _ _ hlen h2;exact⟨x,⟨cs',h1,hx1⟩,hx2⟩)
  have hcell:∀i j,i<len→j<size→w.cell? (a.add (i*size+j))=(F (X i))[j]? := by
   intro i j hin hj;obtain⟨⟨cs',h1,h2⟩,_⟩:=hX i hin;obtain⟨_,hlen,hat⟩:=World.cells?_some h1
   have:=hat j hj
   rw[←Go.Deep.add_add,this,h2]
  have hget:∀(k:Nat) (l:List α) (i j:Nat),l.length=k→i<k→j<size→(l.flatMap F)[i*size+j]? = (l[i]?).bind fun x=>(F x)[j]? := by
   intro k
   induction k with
   | zero=>intro l i j _ h;omega
   | succ k ih=>
    intro l i j hlk hik hj
    match l,hlk with
    | x::r,hlk=>
     cases i with
     | zero=>simp only[Z27,Nat.zero_mul,Z22,List.getElem?_cons_zero,Option.bind_some];rw[List.getElem?_append_left (by rw[hF];exact hj)]
     | succ i=>simp only[Z27,Z21];rw[List.getElem?_append_right (by rw[hF,Nat.add_mul];omega),hF,show (i+1)*size+j-size=i*size+j by rw[Nat.add_mul];omega];exact ih r i j (by simpa using hlk) (by omega) hj
  have hll:((List.range len).map X).length=len:=by simp
  have hflen:∀l:List α,(l.flatMap F).length=l.length*size:=by
   intro l
   induction l with
   | nil=>simp
   | cons x r ih=>simp only[Z27,Z09,ih,hF,Z11,Nat.add_mul];omega
  have key:∀q u,(((List.range len).map X).flatMap F)[q]? = some u→w.cell? (a.add q)=some u:=by
   intro q u hu
   have hq:q<len*size:=by
    have:=(Z24.1 hu).1
    rw[hflen,hll]at this;exact this
   have hq1:q / size<len:=Nat.div_lt_of_lt_mul (by rw[Nat.mul_comm];exact hq);have hq2:q % size<size:=Nat.mod_lt _ hpos;have hqe:q / size*size+q % size=q:=by rw[Nat.mul_comm];exact Nat.div_add_mod q size
   have h1:=hget len _ (q / size) (q % size) hll hq1 hq2;rw[hqe,hu]at h1;have h2:=hcell (q / size) (q % size) hq1 hq2;rw[hqe]at h2;rw[h2,h1];simp [hq1]
  refine⟨some a,len,cap,(List.range len).map X,rfl,hll,hl,by unfold maxLen at hm;omega,fun hne=>⟨a,rfl,?_,key⟩,.inr ⟨_,_,rfl,by simp,?_⟩⟩
  ·obtain⟨u,us,hq⟩:=List.exists_cons_of_ne_nil hne
   have:=World.block_lt_of_cell? _ _ (key 0 u (by rw[hq];rfl))
   rwa [blk_add]at this
  ·intro i x y hx1 hy1
   simp only[List.getElem?_map]at hx1 hy1;obtain⟨i1,hi1,rfl⟩:=Option.map_eq_some_iff.1 hx1;obtain⟨i2,hi2,rfl⟩:=Option.map_eq_some_iff.1 hy1;have e1:=Z24.1 hi1;have e2:=Z24.1 hi2;obtain⟨h1,rfl⟩:=e1;obtain⟨h2,rfl⟩:=e2;simp only[List.getElem_range]
   exact(hX i (by simpa using h1)).2
end
open Go.ChangeShapes Go.WideShapes Go.ChangeAt Go.RowKit
instance:Inhabited AtE:=⟨⟨0,⟨none,0,0,[]⟩⟩⟩
instance:Inhabited MmE:=⟨⟨0,0,0,none,0,0,[]⟩⟩
section
variable {H:Type} {enc:TypeId×Value→H} {w:World} {base:Nat} {spare:Nat→Bool} {held:Bool} {r:Reach} {b0:Nat}
theorem i64_im {x:Int} (h:(Lit.int .i64 x).wf=true) : -9223372036854775808≤x∧x≤9223372036854775807:=bounds_i64 h
theorem X9h {d:DataW H} {l:List (DataW H)} (h:d∈l):Rows.uptoBulk d≤Rows.uptoBulkAll l:=by
 induction l with
 | nil=>cases h
 | cons x r ih=>
  simp only[Rows.uptoBulkAll];rcases Z23.1 h with e | e
  ·subst e;omega
  ·have:=ih e;omega
theorem Y9a {d:DataW H} {ys:List (DataW H×List MemPlace)} {j:Nat} {z:DataW H×List MemPlace} (hd:d = .agg (ys.map (·.1))) (hz:ys[j]? = some z):Rows.uptoBulk z.1≤Rows.uptoBulk d:=by
 subst hd
 have:=X9h (d:=z.1) (l:=ys.map (·.1)) (List.mem_map_of_mem (Z16 hz))
 simp only[Rows.uptoBulk];omega
def CstN (x:Cst):Prop:=(-9223372036854775808≤x.num∧x.num≤9223372036854775807)∧(-9223372036854775808≤x.tag∧x.tag≤9223372036854775807)∧x.text.length≤maxLen
theorem W4z (n:Nat) (cs:List Value) (y:DataW H×List MemPlace) (hl:cs.length=5) (h:DataW.trod enc Tryd.prog w base spare held n 39 cs=some y):∃x:Cst,cs=cstC x∧CstN x∧x.text.length≤Rows.uptoBulk y.1:=by
 obtain⟨ys,n',hy,_,_,hf⟩:=Y9e Tryd.underlying39 (by kernel_rfl) (by kernel_rfl) h;obtain⟨v0,z0,hc0,_,h0⟩:=hf 0 _ rfl;obtain⟨v1,z1,hc1,_,h1⟩:=hf 1 _ rfl;obtain⟨v2,z2,hc2,_,h2⟩:=hf 2 _ rfl;obtain⟨v3,z3,hc3,_,h3⟩:=hf 3 _ rfl;obtain⟨v4,z4,hc4,hz4,h4⟩:=hf 4 _ rfl;obtain⟨a0,ha0,_,w0⟩:=DataW.trod_int Tryd.underlying3 h0;obtain⟨a1,ha1,_,_⟩:=DataW.trod_int Tryd.underlying3 h1;obtain⟨a2,ha2,_,_⟩:=DataW.trod_int Tryd.underlying3 h2;obtain⟨a3,ha3,_,w3⟩:=DataW.trod_int Tryd.underlying2 h3;obtain⟨s,hs,hd,hw⟩:=DataW.trod_string Tryd.underlying9 h4;have hb:=Y9a hy hz4;rw[hd]at hb;simp at ha0 ha1 ha2 ha3 hs;subst ha0;subst ha1;subst ha2;subst ha3;subst hs
 match cs,hl with
 | [c0,c1,c2,c3,c4],_=>simp at hc0 hc1 hc2 hc3 hc4;subst hc0;subst hc1;subst hc2;subst hc3;subst hc4;exact⟨⟨a0,a1,a2,a3,s.data.toList⟩,rfl,⟨i64_im w3,i64_im w0,hw⟩,by simp only[Rows.uptoBulk]at hb;exact Nat.le_of_succ_le hb⟩
end
open Go.ChangeShapes Go.WideShapes Go.ChangeAt Go.RowKit
def InR (n:Int):Prop := -9223372036854775808≤n∧n≤9223372036854775807
def VtN (k:Nat) (x:Vt):Prop:=InR x.kind∧x.name.length≤k∧InR x.at_
def HnN (k:Nat) (x:Hnd):Prop:=InR x.from_∧InR x.to_∧InR x.at_∧x.name.length≤k
def FlN (k:Nat) (x:Fld):Prop:=InR x.access∧x.name.length≤k∧x.desc.length≤k∧InR x.const
def FrN (k:Nat) (x:FrE):Prop:=InR x.tag∧InR x.delta∧(x.l.n≤k∧∀t∈x.l.l,VtN k t)∧(x.s.n≤k∧∀t∈x.s.l,VtN k t)
def CtN (k:Nat) (x:Cst):Prop:=CstN x∧InR x.a∧InR x.b∧x.text.length≤k
structure MtN (k:Nat) (x:MtE):Prop where
 access:InR x.access
 name:x.name.length≤k
 desc:x.desc.length≤k
 stack:InR x.stack
 locals:InR x.locals
 code:x.code.n≤k
 hs:x.hs.n≤k∧∀t∈x.hs.l,HnN k t
 fs:x.fs.n≤k∧∀t∈x.fs.l,FrN k t
structure ClN (k:Nat) (x:ClE):Prop where
 access:InR x.access
 name:x.name.length≤k
 super:x.super.length≤k
 ifs:x.ifs.n≤k∧∀t∈x.ifs.l,t.length≤k
 fls:x.fls.n≤k∧∀t∈x.fls.l,FlN k t
 mts:x.mts.n≤k∧∀t∈x.mts.l,MtN k t
 pool:x.pool.n≤k∧∀t∈x.pool.l,CtN k t
section
variable {k k':Nat}
theorem VtN.up (h:k≤k') {x:Vt} (e:VtN k x):VtN k' x:=⟨e.1,Z08 e.2.1 h,e.2.2⟩
theorem HnN.up (h:k≤k') {x:Hnd} (e:HnN k x):HnN k' x:=⟨e.1,e.2.1,e.2.2.1,Z08 e.2.2.2 h⟩
theorem FlN.up (h:k≤k') {x:Fld} (e:FlN k x):FlN k' x:=⟨e.1,Z08 e.2.1 h,Z08 e.2.2.1 h,e.2.2.2⟩
theorem FrN.up (h:k≤k') {x:FrE} (e:FrN k x):FrN k' x:=⟨e.1,e.2.1,⟨Z08 e.2.2.1.1 h,fun t ht=>(e.2.2.1.2 t ht).up h⟩,⟨Z08 e.2.2.2.1 h,fun t ht=>(e.2.2.2.2 t ht).up h⟩⟩
theorem CtN.up (h:k≤k') {x:Cst} (e:CtN k x):CtN k' x:=⟨e.1,e.2.1,e.2.2.1,Z08 e.2.2.2 h⟩
theorem MtN.up (h:k≤k') {x:MtE} (e:MtN k x):MtN k' x:=⟨e.access,Z08 e.name h,Z08 e.desc h,e.stack,e.locals,Z08 e.code h,⟨Z08 e.hs.1 h,fun t ht=>(e.hs.2 t ht).up h⟩,⟨Z08 e.fs.1 h,fun t ht=>(e.fs.2 t ht).up h⟩⟩
end
section
variable {H:Type} {enc:TypeId×Value→H} {w:World} {base:Nat} {spare:Nat→Bool} {held:Bool} {r:Reach} {b0:Nat}
theorem X3s {P:Program} {t e:TypeId} {v:Value} {n:Nat} {y:DataW H×List MemPlace} (ht:P.underlying t=some (.slice e)) (he:P.underlying e=some (.int .u8)) (hc:P.cellsOf e=1)
  (hf:DataW.trod enc P w base spare held n t [v]=some y):∃x,v=slV x∧SlOk w x∧DLen y.1 x.n:=by
 obtain⟨x,hv,hx⟩:=X0c ht he hc hf;refine⟨x,hv,hx,?_⟩;rcases open_ints ht he hc hf with⟨hcs,hy⟩ | ⟨a,l,c',zs,hcs,_,hl,hm,hz,hy,_,_⟩
 ·rw[hy]
  rw[hv]at hcs;injection hcs with hcs
  unfold slV at hcs;injection hcs with _ h2
  exact .inl ⟨rfl,h2⟩
 ·rw[hy]
  rw[hv]at hcs;injection hcs with hcs
  unfold slV at hcs;injection hcs with _ h2
  rw[h2];have hzl:l≤zs.length:=by rw[hz];split <;> omega
  exact .inr ⟨_,_,rfl,by simp [lits];omega⟩
theorem inR {x:Int} (h:(Lit.int .i64 x).wf=true):InR x:=bounds_i64 h
theorem Y2t {α:Type} [Inhabited α] {t e:TypeId} {v:Value} (size:Nat) (F:α→List Value) (R:α→Prop) (N:Nat→α→Prop) (ht:Tryd.prog.underlying t=some (.slice e)) (hC:Tryd.prog.cellsOf e=size) (hpos:0<size) (hF:∀x,(F x).length=size)
  (hN:∀{k k':Nat},k≤k'→∀{x:α},N k x→N k' x)
  (hel:∀(n:Nat) (cs:List Value) (y:DataW H×List MemPlace),cs.length=size→DataW.trod enc Tryd.prog w base spare held n e cs=some y→∃x,cs=F x∧R x∧N (Rows.uptoBulk y.1) x)
  {m0:Nat} {y0:DataW H×List MemPlace} (hf:DataW.trod enc Tryd.prog w base spare held m0 t [v]=some y0) :
  ∃s:Sq α,v=s.v∧SqX F w (fun k=>k<w.heap.size) s∧(∀x∈s.l,R x)∧s.n≤Rows.uptoBulk y0.1∧∀x∈s.l,N (Rows.uptoBulk y0.1) x:=by
 obtain⟨A,n,c,l,h1,h2,h3,h4,h5,h6⟩:=W6e size F (fun x d=>R x∧N (Rows.uptoBulk d) x) ht hC hpos hF hel hf;refine⟨⟨A,n,c,l⟩,h1,⟨h2,h3,h4,fun hn=>by obtain⟨ad,e,hb,hc⟩:=h5 hn;exact⟨ad,e,hb,hc⟩⟩,?_⟩;rcases h6 with⟨h7,h8⟩ | ⟨es,sp,h7,h8,h9⟩
 ·subst h8
  exact⟨(fun x hx=>by cases hx),(by show n≤_;simp at h2;omega),(fun x hx=>by cases hx)⟩
 ·have hes:∀x∈l,R x∧N (Rows.uptoBulk y0.1) x:=fun x hx=>by
   obtain⟨i,hi⟩:=List.getElem?_of_mem hx;have hil:=(Z24.1 hi).1;have hei:=Z33 (l:=es) (i:=i) (by omega);obtain⟨q1,q2⟩:=h9 i x _ hi hei;refine⟨q1,hN ?_ q2⟩;rw[h7]
   have:=X9h (Z16 hei)
   simp only[Rows.uptoBulk];omega
  refine⟨fun x hx=>(hes x hx).1,?_,fun x hx=>(hes x hx).2⟩;rw[h7]
  have:=X9r es
  show n≤_;simp only[Rows.uptoBulk];omega
theorem Y2e {v:Value} {n:Nat} {d:DataW H} {y:DataW H×List MemPlace} {ys:List (DataW H×List MemPlace)} {j:Nat} (hf:DataW.trod enc Tryd.prog w base spare held n 9 [v]=some y) (hd:d = .agg (ys.map (·.1))) (hz:ys[j]? = some y):∃l:List UInt8,v=strQ l∧l.length≤Rows.uptoBulk d:=by
 obtain⟨s,hs,hy,_⟩:=DataW.trod_string Tryd.underlying9 hf;have hb:=Y9a hd hz;rw[hy]at hb;injection hs with hs
 exact⟨s.data.toList,by rw[hs];rfl,by simp only[Rows.uptoBulk]at hb;exact Nat.le_of_succ_le hb⟩
theorem W5g (n:Nat) (cs:List Value) (y:DataW H×List MemPlace) (hl:cs.length=3) (h:DataW.trod enc Tryd.prog w base spare held n 91 cs=some y):∃x:Vt,cs=vtC x∧True∧VtN (Rows.uptoBulk y.1) x:=by
 obtain⟨ys,n',hy,_,_,hf⟩:=Y9e Tryd.underlying91 (by kernel_rfl) (by kernel_rfl) h;obtain⟨v0,z0,hc0,_,h0⟩:=hf 0 _ rfl;obtain⟨v1,z1,hc1,hz1,h1⟩:=hf 1 _ rfl;obtain⟨v2,z2,hc2,_,h2⟩:=hf 2 _ rfl;obtain⟨a0,ha0,_,w0⟩:=DataW.trod_int Tryd.underlying3 h0;obtain⟨l1,ha1,b1⟩:=Y2e h1 hy hz1;obtain⟨a2,ha2,_,w2⟩:=DataW.trod_int Tryd.underlying3 h2;simp at ha0 ha2;subst ha0;subst ha1;subst ha2
 match cs,hl with
 | [c0,c1,c2],_=>simp at hc0 hc1 hc2;subst hc0;subst hc1;subst hc2;exact⟨⟨a0,l1,a2⟩,rfl,trivial,inR w0,b1,inR w2⟩
theorem hn_el (n:Nat) (cs:List Value) (y:DataW H×List MemPlace) (hl:cs.length=4) (h:DataW.trod enc Tryd.prog w base spare held n 81 cs=some y):∃x:Hnd,cs=hnC x∧True∧HnN (Rows.uptoBulk y.1) x:=by
 obtain⟨ys,n',hy,_,_,hf⟩:=Y9e Tryd.underlying81 (by kernel_rfl) (by kernel_rfl) h;obtain⟨v0,z0,hc0,_,h0⟩:=hf 0 _ rfl;obtain⟨v1,z1,hc1,_,h1⟩:=hf 1 _ rfl;obtain⟨v2,z2,hc2,_,h2⟩:=hf 2 _ rfl;obtain⟨v3,z3,hc3,hz3,h3⟩:=hf 3 _ rfl;obtain⟨a0,ha0,_,w0⟩:=DataW.trod_int Tryd.underlying3 h0;obtain⟨a1,ha1,_,w1⟩:=DataW.trod_int Tryd.underlying3 h1;obtain⟨a2,ha2,_,w2⟩:=DataW.trod_int Tryd.underlying3 h2;obtain⟨l3,ha3,b3⟩:=Y2e h3 hy hz3;simp at ha0 ha1 ha2;subst ha0;subst ha1;subst ha2;subst ha3
 match cs,hl with
 | [c0,c1,c2,c3],_=>simp at hc0 hc1 hc2 hc3;subst hc0;subst hc1;subst hc2;subst hc3;exact⟨⟨a0,a1,a2,l3⟩,rfl,trivial,inR w0,inR w1,inR w2,b3⟩
theorem fl_el (n:Nat) (cs:List Value) (y:DataW H×List MemPlace) (hl:cs.length=4) (h:DataW.trod enc Tryd.prog w base spare held n 61 cs=some y):∃x:Fld,cs=flC x∧True∧FlN (Rows.uptoBulk y.1) x:=by
 obtain⟨ys,n',hy,_,_,hf⟩:=Y9e Tryd.underlying61 (by kernel_rfl) (by kernel_rfl) h;obtain⟨v0,z0,hc0,_,h0⟩:=hf 0 _ rfl;obtain⟨v1,z1,hc1,hz1,h1⟩:=hf 1 _ rfl;obtain⟨v2,z2,hc2,hz2,h2⟩:=hf 2 _ rfl;obtain⟨v3,z3,hc3,_,h3⟩:=hf 3 _ rfl;obtain⟨a0,ha0,_,w0⟩:=DataW.trod_int Tryd.underlying3 h0;obtain⟨l1,ha1,b1⟩:=Y2e h1 hy hz1;obtain⟨l2,ha2,b2⟩:=Y2e h2 hy hz2;obtain⟨a3,ha3,_,w3⟩:=DataW.trod_int Tryd.underlying3 h3;simp at ha0 ha3;subst ha0;subst ha1;subst ha2;subst ha3
 match cs,hl with
 | [c0,c1,c2,c3],_=>simp at hc0 hc1 hc2 hc3;subst hc0;subst hc1;subst hc2;subst hc3;exact⟨⟨a0,l1,l2,a3⟩,rfl,trivial,inR w0,b1,b2,inR w3⟩
theorem ct_el (n:Nat) (cs:List Value) (y:DataW H×List MemPlace) (hl:cs.length=5) (h:DataW.trod enc Tryd.prog w base spare held n 39 cs=some y):∃x:Cst,cs=cstC x∧True∧CtN (Rows.uptoBulk y.1) x:=by
 obtain⟨x,hx,h1,h2⟩:=W4z n cs y hl h;obtain⟨ys,n',hy,_,_,hf⟩:=Y9e Tryd.underlying39 (by kernel_rfl) (by kernel_rfl) h;obtain⟨v1,z1,hc1,_,k1⟩:=hf 1 _ rfl;obtain⟨v2,z2,hc2,_,k2⟩:=hf 2 _ rfl;obtain⟨a1,ha1,_,w1⟩:=DataW.trod_int Tryd.underlying3 k1;obtain⟨a2,ha2,_,w2⟩:=DataW.trod_int Tryd.underlying3 k2;simp at ha1 ha2;subst ha1;subst ha2;subst hx;simp [cstC]at hc1 hc2;exact⟨x,rfl,trivial,h1,by rw[hc1];exact inR w1,by rw[hc2];exact inR w2,h2⟩
theorem fr_el (n:Nat) (cs:List Value) (y:DataW H×List MemPlace) (hl:cs.length=4) (h:DataW.trod enc Tryd.prog w base spare held n 77 cs=some y):∃x:FrE,cs=frC x∧FrX w (fun k=>k<w.heap.size) x∧FrN (Rows.uptoBulk y.1) x:=by
 obtain⟨ys,n',hy,_,_,hf⟩:=Y9e Tryd.underlying77 (by kernel_rfl) (by kernel_rfl) h;obtain⟨v0,z0,hc0,_,h0⟩:=hf 0 _ rfl;obtain⟨v1,z1,hc1,_,h1⟩:=hf 1 _ rfl;obtain⟨v2,z2,hc2,hz2,h2⟩:=hf 2 _ rfl;obtain⟨v3,z3,hc3,hz3,h3⟩:=hf 3 _ rfl;obtain⟨a0,ha0,_,w0⟩:=DataW.trod_int Tryd.underlying3 h0;obtain⟨a1,ha1,_,w1⟩:=DataW.trod_int Tryd.underlying3 h1;obtain⟨s2,e2,x2,_,m2,n2⟩:=Y2t 3 vtC (fun _=>True) VtN Tryd.underlying75 (by kernel_rfl) (by decide) (fun _=>rfl) (fun h _ e=>VtN.up h e) W5g h2;obtain⟨s3,e3,x3,_,m3,n3⟩:=Y2t 3 vtC (fun _=>True) VtN Tryd.underlying75 (by kernel_rfl) (by decide) (fun _=>rfl) (fun h _ e=>VtN.up h e) W5g h3;have b2:=Y9a hy hz2;have b3:=Y9a hy hz3;simp at ha0 ha1;subst ha0;subst ha1;subst e2;subst e3
 match cs,hl with
 | [c0,c1,c2,c3],_=>simp at hc0 hc1 hc2 hc3;subst hc0;subst hc1;subst hc2;subst hc3;exact⟨⟨a0,a1,s2,s3⟩,rfl,⟨x2,x3⟩,inR w0,inR w1,⟨Z08 m2 b2,fun t ht=>(n2 t ht).up b2⟩,⟨Z08 m3 b3,fun t ht=>(n3 t ht).up b3⟩⟩
theorem mt_el (n:Nat) (cs:List Value) (y:DataW H×List MemPlace) (hl:cs.length=9) (h:DataW.trod enc Tryd.prog w base spare held n 51 cs=some y):∃x:MtE,cs=mtC x∧MtX w (fun k=>k<w.heap.size) x∧MtN (Rows.uptoBulk y.1) x:=by
 obtain⟨ys,n',hy,_,_,hf⟩:=Y9e Tryd.underlying51 (by kernel_rfl) (by kernel_rfl) h;obtain⟨v0,z0,hc0,_,h0⟩:=hf 0 _ rfl;obtain⟨v1,z1,hc1,hz1,h1⟩:=hf 1 _ rfl;obtain⟨v2,z2,hc2,hz2,h2⟩:=hf 2 _ rfl;obtain⟨v3,z3,hc3,_,h3⟩:=hf 3 _ rfl;obtain⟨v4,z4,hc4,_,h4⟩:=hf 4 _ rfl;obtain⟨v5,z5,hc5,_,h5⟩:=hf 5 _ rfl;obtain⟨v6,z6,hc6,hz6,h6⟩:=hf 6 _ rfl;obtain⟨v7,z7,hc7,hz7,h7⟩:=hf 7 _ rfl;obtain⟨v8,z8,hc8,hz8,h8⟩:=hf 8 _ rfl;obtain⟨a0,ha0,_,w0⟩:=DataW.trod_int Tryd.underlying3 h0;obtain⟨l1,ha1,b1⟩:=Y2e h1 hy hz1;obtain⟨l2,ha2,b2⟩:=Y2e h2 hy hz2;obtain⟨q3,ha3,_⟩:=DataW.trod_bool Tryd.underlying4 h3;obtain⟨a4,ha4,_,w4⟩:=DataW.trod_int Tryd.underlying3 h4;obtain⟨a5,ha5,_,w5⟩:=DataW.trod_int Tryd.underlying3 h5;obtain⟨s6,e6,o6,d6⟩:=X3s Tryd.underlying28 Tryd.underlying5 (by kernel_rfl) h6;obtain⟨s7,e7,x7,_,m7,n7⟩:=Y2t 4 hnC (fun _=>True) HnN Tryd.underlying48 (by kernel_rfl) (by decide) (fun _=>rfl) (fun h _ e=>HnN.up h e) hn_el h7;obtain⟨s8,e8,x8,r8,m8,n8⟩:=Y2t 4 frC (FrX w (fun k=>k<w.heap.size)) FrN Tryd.underlying49 (by kernel_rfl) (by decide) (fun _=>rfl) (fun h _ e=>FrN.up h e) fr_el h8;have b6:=Y9a hy hz6;have b7:=Y9a hy hz7;have b8:=Y9a hy hz8;simp at ha0 ha3 ha4 ha5;subst ha0;subst ha1;subst ha2;subst ha3;subst ha4;subst ha5;subst e6;subst e7;subst e8
 match cs,hl with
 | [c0,c1,c2,c3,c4,c5,c6,c7,c8],_=>simp at hc0 hc1 hc2 hc3 hc4 hc5 hc6 hc7 hc8;subst hc0;subst hc1;subst hc2;subst hc3;subst hc4;subst hc5;subst hc6;subst hc7;subst hc8;exact⟨⟨a0,l1,l2,q3,a4,a5,s6,s7,s8⟩,rfl,⟨⟨o6.1,o6.2.1,o6.2.2.1,fun hn=>by obtain⟨ad,e,hb,hc⟩:=o6.2.2.2 hn;exact⟨ad,e,hb,hc⟩⟩,x7,x8,r8⟩,⟨inR w0,b1,b2,inR w4,inR w5,Z08 (Y3z d6) b6,⟨Z08 m7 b7,fun t ht=>(n7 t ht).up b7⟩,⟨Z08 m8 b8,fun t ht=>(n8 t ht).up b8⟩⟩⟩
theorem tx_el (n:Nat) (cs:List Value) (y:DataW H×List MemPlace) (hl:cs.length=1) (h:DataW.trod enc Tryd.prog w base spare held n 9 cs=some y):∃x:List UInt8,cs=txC x∧True∧x.length≤Rows.uptoBulk y.1:=by
 match cs,hl with
 | [c0],_=>
  obtain⟨s,hs,hy,_⟩:=DataW.trod_string Tryd.underlying9 h;injection hs with hs
  refine⟨s.data.toList,by rw[hs];rfl,trivial,?_⟩;rw[hy];simp only[Rows.uptoBulk];omega
theorem array7 {α:Type} {cs:Array α} (h:cs.size=7):∃c0 c1 c2 c3 c4 c5 c6,cs=#[c0,c1,c2,c3,c4,c5,c6]:=by
 obtain⟨l⟩:=cs
 match l,h with
 | [a,b,c,d,e,f,g],_=>exact⟨a,b,c,d,e,f,g,rfl⟩
theorem X8n {v:Value} {d:DataW H} {ps:List MemPlace} (hv:Value.okWide Tryd.prog w r b0 27 v) (h:DataW.Trod enc Tryd.prog w base spare held 27 v d ps) :
  ∃x:ClE,v = .agg (clA x)∧ClX w (fun k=>k<w.heap.size) x∧ClN (Rows.uptoBulk d) x:=by
 obtain⟨cs,rfl,hsz⟩:=okWide_struct Tryd.underlying27 hv;have hC:Tryd.prog.cellsOf 27=7:=(by kernel_rfl);rw[hC]at hsz;obtain⟨c0,c1,c2,c3,c4,c5,c6,rfl⟩:=array7 hsz;obtain⟨fuel,hf⟩:=h;obtain⟨ys,n',hy,_,_,hf⟩:=Y9e Tryd.underlying27 (by kernel_rfl) (by kernel_rfl) hf;obtain⟨v0,z0,hc0,_,h0⟩:=hf 0 _ rfl;obtain⟨v1,z1,hc1,hz1,h1⟩:=hf 1 _ rfl;obtain⟨v2,z2,hc2,hz2,h2⟩:=hf 2 _ rfl;obtain⟨v3,z3,hc3,hz3,h3⟩:=hf 3 _ rfl;obtain⟨v4,z4,hc4,hz4,h4⟩:=hf 4 _ rfl;obtain⟨v5,z5,hc5,hz5,h5⟩:=hf 5 _ rfl;obtain⟨v6,z6,hc6,hz6,h6⟩:=hf 6 _ rfl;obtain⟨a0,ha0,_,w0⟩:=DataW.trod_int Tryd.underlying3 h0;obtain⟨l1,ha1,b1⟩:=Y2e h1 hy hz1;obtain⟨l2,ha2,b2⟩:=Y2e h2 hy hz2;obtain⟨s3,e3,x3,_,m3,n3⟩:=Y2t 1 txC (fun _=>True) (fun k x=>x.length≤k) Tryd.underlying22 (by kernel_rfl) (by decide) (fun _=>rfl) (fun h _ e=>Z08 e h) tx_el h3;obtain⟨s4,e4,x4,_,m4,n4⟩:=Y2t 4 flC (fun _=>True) FlN Tryd.underlying23 (by kernel_rfl) (by decide) (fun _=>rfl) (fun h _ e=>FlN.up h e) fl_el h4;obtain⟨s5,e5,x5,r5,m5,n5⟩:=Y2t 9 mtC (MtX w (fun k=>k<w.heap.size)) MtN Tryd.underlying24 (by kernel_rfl) (by decide) (fun _=>rfl) (fun h _ e=>MtN.up h e) mt_el h5;obtain⟨s6,e6,x6,_,m6,n6⟩:=Y2t 5 cstC (fun _=>True) CtN Tryd.underlying25 (by kernel_rfl) (by decide) (fun _=>rfl) (fun h _ e=>CtN.up h e) ct_el h6;have b3:=Y9a hy hz3;have b4:=Y9a hy hz4;have b5:=Y9a hy hz5;have b6:=Y9a hy hz6;simp [Value.cells]at ha0 hc0 hc1 hc2 hc3 hc4 hc5 hc6;subst ha0;subst ha1;subst ha2;subst e3;subst e4;subst e5;subst e6;subst hc0;subst hc1;subst hc2;subst hc3;subst hc4;subst hc5;subst hc6;exact⟨⟨a0,l1,l2,s3,s4,s5,s6⟩,rfl,⟨x3,x4,x5,r5,x6⟩,⟨inR w0,b1,b2,⟨Z08 m3 b3,fun t ht=>Z08 (n3 t ht) b3⟩,⟨Z08 m4 b4,fun t ht=>(n4 t ht).up b4⟩,⟨Z08 m5 b5,fun t ht=>(n5 t ht).up b5⟩,⟨Z08 m6 b6,fun t ht=>(n6 t ht).up b6⟩⟩⟩
end
open Go.RowKit
theorem take_snocS {α:Type} {l:List α} {k:Nat} {x:α} (h:l[k]? = some x):l.take (k+1)=l.take k++[x]:=by
 rw[Z40,h];rfl
open Go.RowKit
theorem X8e (A C:Option Addr) (n c m d:Nat) (w:World) (l r:List UInt8) (hn:l.length=n) (hm:r.length=m) (hl:(n:Int)≤140737488355328) (hr:(m:Int)≤140737488355328)
  (ha:RB w w.heap.size A l) (hc:RB w w.heap.size C r) :
  Calls Tryd.prog 43 #[.slice A n c,.slice C m d] w fun e w'=>e = .returned (.bool (decide (l=r)))∧∃q,w'=w.drewN q:=by
 subst hn;subst hm;by_cases he:l.length=r.length
 ·go_enter Tryd.func43,Tryd.ntmps43
  have he1:((l.length:Int) != (r.length:Int))=false:=(by simp [he]);have HE:=Lib.hid he;clear he;go_wp2
  go_loopw [5] (fun i wr=>∃k m:Nat,k≤l.length∧i = .int .i64 (k:Int)∧l.take k=r.take k∧wr=w.drewN m) (fun i _=>l.length-(intOf i).toNat)
  case atStart=>exact⟨0,0,by omega,rfl,rfl,rfl⟩
  case round=>
   obtain⟨k,m,hk,rfl,heq,rfl⟩:=hrel;have HQ:=Lib.hid heq;clear heq;by_cases hk0:k<l.length
   ·have hk1:k<r.length:=by have:=HE.out;omega
    obtain⟨ad,x,rfl,_,hx,hcx⟩:=ha.byte hk0;obtain⟨bd,y,rfl,_,hy,hcy⟩:=hc.byte hk1;by_cases hxy:x=y
    ·subst hxy
     have hb1:((x.toNat:Int) != (x.toNat:Int))=false:=(by simp);go_wp2;go_quiet (fail)
     go_wp2;go_roundw
     case rel=>exact⟨k+1,_,by omega,by go_num,by rw[take_snocS hx.out,take_snocS hy.out,HQ.out],rfl⟩
     case measure=>simp [intOf];omega
    ·have hb1:((x.toNat:Int) != (y.toNat:Int))=true:=by
      simp only[bne_iff_ne,ne_eq,Int.natCast_inj];exact fun e=>hxy (UInt8.toNat_inj.1 e)
     have HN:Hid (decide (l=r)=false):=by
      unfold Hid;simp only[decide_eq_false_iff_not];rintro rfl
      have:=hx.out.symm.trans hy.out
      exact hxy (by injection this)
     clear hxy;go_wp2;go_quiet (fail)
     go_wp2;go_ret;exact⟨by rw[HN.out];rfl,_,World.drewN_drewN _ _ _⟩
   ·obtain rfl:k=l.length:=by omega
    have HN:Hid (decide (l=r)=true):=by have h1:=HQ.out;rw[List.take_length,Z15 (by have:=HE.out;omega)]at h1;unfold Hid;simp [h1]
    go_wp2;go_ret;exact⟨by rw[HN.out];rfl,_,rfl⟩
 ·have he1:((l.length:Int) != (r.length:Int))=true:=by simp;omega
  have hne:decide (l=r)=false:=by simp;rintro rfl;exact he rfl
  rw[hne]
  go_enter Tryd.func43,Tryd.ntmps43
  go_wp2;go_ret;exact⟨rfl,0,rfl⟩
end Go.Proofs.YtpmfiegfbmamiaaDoor
