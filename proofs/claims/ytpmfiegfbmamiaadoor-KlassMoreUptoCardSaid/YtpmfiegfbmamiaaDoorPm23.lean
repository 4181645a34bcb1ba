/- Parts: klass.Make's memory: the class's box, the result's box, the maker with its rows. Contracts: slices.Equal at the element types that klass.same asks for: they read alone. Contract: klass.same$1$1: are two frames the same? Contract: slices.EqualFunc at frames. Contract: klass.same$1: are two methods the same? Contract: slices.EqualFunc at methods. Contract: klass.same. Contract: samovarref15.sameTypes. -/
import Derived.Test.YtpmfiegfbmamiaaDoorPm14
import Derived.Test.YtpmfiegfbmamiaaDoorPm22
import Derived.Test.YtpmfiegfbmamiaaDoorPm7
import Derived.Test.YtpmfiegfbmamiaaDoorPm3
namespace Go.Proofs.YtpmfiegfbmamiaaDoor
set_option maxRecDepth 100000
set_option maxHeartbeats 8000000
open Go.RowKit
set_option linter.unusedSimpArgs false
def nilS:Value := .slice none 0 0
theorem OwS.lit1 {α:Type} {fC:α→List Value} {sz base:Nat} {e:TypeId} (hC:Cels fC sz) (w:World) (x:α) (cs:Array Value) (h:cs.toList=fC x) (hB:base≤w.heap.size):OwS fC sz (w.alloc (.cells cs e)) base e (.slice (some ⟨w.heap.size,0,none⟩) 1 1) [x]:=by
 have hl:cs.size=sz:=(by rw[←Array.length_toList,h,hC.len]);refine⟨by simp [hC.len],.inr ⟨w.heap.size,1,cs,rfl,hB,heap_alloc_new w _,Z00 _,by unfold maxLen;decide,by omega,?_⟩⟩;show cs.toList.take _=_;rw[Z15 (by rw[Array.length_toList];simp;omega),h]
 simp
structure MkE (w wx:World) (g1 g2:Nat) (x:ClE):Prop where
 b1:Bk wx g1 27 (clA x)
 b2:Bk wx g2 34 imZ
 lo:w.heap.size≤g1∧g1<g2
 bel:Below w.heap.size w wx
section
variable {w wx w3 w':World} {b b' g1 g2 gk gm:Nat} {x:ClE} {ac th su:Int} {V V' I I' F F' M M':Value} {P P':List Cst} {ifs:List Int} {fs ms:List MmE} {n:Nat} {G:Cst→Option Value}
theorem MkE.fo {S:Nat→Prop} (h:MkE w wx g1 g2 x) (c:Ch wx w' S) (hS:¬S g1∧¬S g2) (hl:∀k,S k→w.heap.size≤k):MkE w w' g1 g2 x:=
 ⟨h.b1.ch c hS.1,h.b2.ch c hS.2,h.lo,h.bel.trans (c.below h.bel.size (fun k hk e=>by have:=hl k e;omega))⟩
theorem MkE.below (h:MkE w wx g1 g2 x) (hb:Below wx.heap.size wx w'):MkE w w' g1 g2 x:=
 h.fo (S:=fun _=>False) (Ch.of_below hb) ⟨fun e=>e,fun e=>e⟩ (fun _ e=>e.elim)
theorem MkE.lt (h:MkE w wx g1 g2 x):g1<wx.heap.size∧g2<wx.heap.size:=⟨h.b1.lt,h.b2.lt⟩
structure Mk0 (w wx:World) (g1 g2:Nat) (x:ClE) (gk gm:Nat) (V:Value) (P:List Cst) (n:Nat) (G:Cst→Option Value):Prop where
 e:MkE w wx g1 g2 x
 bk:Bk wx gk 57 ((mkA x.access 0 0 nilS nilS nilS gm).setIfInBounds 2 V)
 own:OwS cstC 5 wx w.heap.size 39 V P
 map:MapT kcV wx Tryd.prog 39 gm n G
 ne:gk≠gm∧V.ownBlock≠some gk∧V.ownBlock≠some gm
 lo:∀k,Mkf gk gm V k→g2<k
theorem Mk0.below (h:Mk0 w wx g1 g2 x gk gm V P n G) (hb:Below wx.heap.size wx w'):Mk0 w w' g1 g2 x gk gm V P n G:=⟨h.e.below hb,h.bk.below hb h.bk.lt,h.own.step hb,h.map.below hb h.map.lt,h.ne,h.lo⟩
theorem Mk0.c2 (h:Mk0 w wx g1 g2 x gk gm V P n G):wx.cell? ⟨gk,2,none⟩=some V:=by
 rw[h.bk.cell 2,Z46,if_pos (by rw[X1n];decide)]
theorem Mk0.c10 (h:Mk0 w wx g1 g2 x gk gm V P n G):wx.cell? ⟨gk,10,none⟩=some (.map (some gm)):=by
 rw[h.bk.cell 10,Z45 (by decide)];rfl
theorem Mk0.one (h:Mk0 w wx g1 g2 x gk gm V P n G) (c:Cst):Mk0 w ((wx.alloc (.cells (csCE c) 39)).setCell ⟨gk,2,none⟩ (.slice (some ⟨wx.heap.size,0,none⟩) 1 1)) g1 g2 x gk gm (.slice (some ⟨wx.heap.size,0,none⟩) 1 1) [c] n G:=by
 have hb:=Y9z (Below.refl wx.heap.size wx) (Z00 _) (.cells (csCE c) 39);have h1:=h.below hb;have hk:=h.bk.lt;have hm:=h.map.lt;have hc:=Y9i (wx.alloc (.cells (csCE c) 39)) gk 2 (.slice (some ⟨wx.heap.size,0,none⟩) 1 1);have hkl:=h.lo gk (.inl rfl);refine⟨h1.e.fo hc ⟨fun e=>by have e:g1=gk:=e;have:=h.e.lo;omega,fun e=>by have e:g2=gk:=e;omega⟩ (fun k e=>by have e:k=gk:=e;have:=h.e.lo;omega),?_,(OwS.lit1 cstCels wx c (csCE c) rfl h.e.bel.size).set_other (p:=⟨gk,2,none⟩) (fun e=>by have e:some wx.heap.size=some gk:=e;injection e with e;omega) _,h1.map.sameB (Below.heap_setCell _ ⟨gk,2,none⟩ _ gm (fun e=>h.ne.1 e.symm)),⟨h.ne.1,fun e=>?_,fun e=>?_⟩,fun k e=>?_⟩
 ·have:=h1.bk.set 2 (.slice (some ⟨wx.heap.size,0,none⟩) 1 1)
  rwa [Array.setIfInBounds_setIfInBounds]at this
 ·have e:some wx.heap.size=some gk:=e
  injection e with e;omega
 ·have e:some wx.heap.size=some gm:=e
  injection e with e;omega
 ·rcases e with e | e | e
  ·exact h.lo k (.inl e)
  ·exact h.lo k (.inr (.inl e))
  ·have e:some wx.heap.size=some k:=e
   injection e with e
   have:=h.e.lt.2
   omega
theorem Mk0.put (h:Mk0 w wx g1 g2 x gk gm V P n G) {n':Nat} {G':Cst→Option Value} (hm:MapT kcV w' Tryd.prog 39 gm n' G') (hg:wx.grownBy w' (some gm)):Mk0 w w' g1 g2 x gk gm V P n' G':=by
 have hc:Ch wx w' (fun k=>k=gm):=Ch.of_grown hg (fun k e=>by injection e with e;exact e.symm);have hl:=h.lo gm (.inr (.inl rfl));exact⟨h.e.fo hc ⟨fun e=>by have e:g1=gm:=e;have:=h.e.lo;omega,fun e=>by have e:g2=gm:=e;omega⟩ (fun k e=>by have e:k=gm:=e;have:=h.e.lo;omega),h.bk.ch hc h.ne.1,OwS.kept h.own hg (.inr h.ne.2.2),hm,h.ne,h.lo⟩
theorem Mk0.ext (h:Mk0 w wx g1 g2 x gk gm V P n G) {G':Cst→Option Value} (he:∀q,G' q=G q):Mk0 w wx g1 g2 x gk gm V P n G':=⟨h.e,h.bk,h.own,h.map.ext he,h.ne,h.lo⟩
structure MkZ (w wx:World) (b g1 g2:Nat) (x:ClE) (gk gm:Nat) (th su:Int) (V I F M:Value) (P:List Cst) (ifs:List Int) (fs ms:List MmE):Prop where
 e:MkE w wx g1 g2 x
 s:MkS w wx b gk gm x.access th su V I F M P ifs fs ms
 n:¬MkG gk gm V I F M g1∧¬MkG gk gm V I F M g2
theorem Mk0.z (h:Mk0 w wx g1 g2 x gk gm V P n (SeenP P)) (hP:P≠[]) (hn:n≤P.length) (hc:∀c∈P,CstB c):MkZ w wx wx.heap.size g1 g2 x gk gm 0 0 V nilS nilS nilS P [] [] []:=by
 have h0:∀k,¬Fow nilS k:=fun k e=>by cases e
 have hlo:∀k,Mkf gk gm V k→w.heap.size≤k:=fun k e=>by have:=h.lo k e;have:=h.e.lo;omega
 have hn':∀k,MkG gk gm V nilS nilS nilS k→g2<k:=fun k e=>by
  rcases e with e | e | e | e
  ·exact h.lo k e
  ·exact(h0 k e).elim
  ·exact(h0 k e).elim
  ·exact(h0 k e).elim
 refine⟨h.e,⟨⟨h.bk,rfl,rfl,h.own,⟨n,hn,h.map⟩,h.ne,⟨hlo gk (.inl rfl),hlo gm (.inr (.inl rfl))⟩,hc,hP,h.e.bel⟩,OwL.nil,OwS.nil,OwS.nil,fun y hy=>(by rcases hy with e | e;(cases e);(cases e)),Z00 _,fun k e=>(h0 k e).elim,fun k e=>(h0 k e).elim,fun k e=>(h0 k e).elim⟩,fun e=>?_,fun e=>?_⟩
 ·have:=hn' g1 e;have:=h.e.lo;omega
 ·have:=hn' g2 e;omega
theorem MkZ.on (h:MkZ w wx b g1 g2 x gk gm th su V I F M P ifs fs ms) {th' su':Int} {ifs':List Int} {fs' ms':List MmE} (s:MkS w w' b' gk gm x.access th' su' V' I' F' M' P' ifs' fs' ms') (f:Fo wx (MkG gk gm V I F M) w' (MkG gk gm V' I' F' M')) :
  MkZ w w' b' g1 g2 x gk gm th' su' V' I' F' M' P' ifs' fs' ms':=
 ⟨h.e.fo f.ch h.n (fun k e=>(h.s.foot k e).1),s,f.far h.e.lt.1 h.n.1,f.far h.e.lt.2 h.n.2⟩
theorem MkZ.below (h:MkZ w wx b g1 g2 x gk gm th su V I F M P ifs fs ms) (hb:Below wx.heap.size wx w'):MkZ w w' b g1 g2 x gk gm th su V I F M P ifs fs ms:=⟨h.e.below hb,h.s.below hb,h.n⟩
theorem MkZ.call (h:MkZ w wx b g1 g2 x gk gm th su V I F M P ifs fs ms) (hm:MkR w w' gk gm (mkA x.access th su I F M gm) V' P') (f:MkC gk gm wx V w' V') :
  MkZ w w' b g1 g2 x gk gm th su V' I F M P' ifs fs ms∧Fo wx (MkG gk gm V I F M) w' (MkG gk gm V' I F M):=by
 obtain⟨s,c⟩:=h.s.call hm f;exact⟨h.on s c,c⟩
theorem MkZ.far {U:Nat→Prop} (h:MkZ w wx b g1 g2 x gk gm th su V I F M P ifs fs ms) (c:Ch wx w' U) (hU:∀k,U k→b≤k∧g2<k∧¬MkG gk gm V I F M k):MkZ w w' b g1 g2 x gk gm th su V I F M P ifs fs ms:=
 ⟨h.e.fo c ⟨fun e=>by have:=(hU _ e).2.1;have:=h.e.lo;omega,fun e=>by have:=(hU _ e).2.1;omega⟩ (fun k e=>by have:=(hU k e).2.1;have:=h.e.lo;omega),h.s.far c (fun k e=>⟨(hU k e).1,by have:=(hU k e).2.1;have:=h.e.lo;omega,(hU k e).2.2⟩),h.n⟩
theorem MkZ.top (h:MkZ w wx b g1 g2 x gk gm th su V I F M P ifs fs ms):MkZ w wx wx.heap.size g1 g2 x gk gm th su V I F M P ifs fs ms:=⟨h.e,h.s.top,h.n⟩
end
theorem SlX.ofow {w:World} {X:Nat→Prop} {B n c:Nat} {e:TypeId} {A:Option Addr} {l:List UInt8} (h:OwB w B e (.slice A n c) l) (hX:∀k,Fow (.slice A n c) k→X k):SlX w X ⟨A,n,c,l⟩:=by
 have hh:=h;obtain⟨A',c',e1,hr,hc,hc2⟩:=OwL.rd h;injection e1 with e1 e2 e3
 subst e1 e2 e3;refine⟨rfl,hc,hc2,fun hn=>?_⟩;obtain⟨ad,e2,hx,hcl⟩:=hr hn;subst e2;refine⟨ad,rfl,hX _ ?_,hcl⟩;rcases hh.2 with⟨e3,_⟩ | ⟨g,cap,cur,e3,_⟩
 ·injection e3 with e3 _ _;cases e3
 ·injection e3 with e3 _ _;injection e3 with e3;subst e3;rfl
theorem X6r {w:World} {X:Nat→Prop} {a b d:Int}:MmX w X ⟨a,b,d,none,0,0,[]⟩:=⟨rfl,Z00 _,by show ((0:Nat):Int)≤_;omega,fun h=>absurd rfl h,fun x hx=>by cases hx⟩
theorem Y4z {w:World} {X:Nat→Prop} {B n c ga:Nat} {e t:TypeId} {A:Option Addr} {l:List UInt8} {q a b d:Int} (hk:Bk w ga t #[.int .i64 q,.slice A n c]) (hg:X ga) (h:OwB w B e (.slice A n c) l) (hX:∀k,Fow (.slice A n c) k→X k) :
  MmX w X ⟨a,b,d,some ⟨ga,0,none⟩,1,1,[⟨q,⟨A,n,c,l⟩⟩]⟩:=by
 refine⟨rfl,Z00 _,by show ((1:Nat):Int)≤_;omega,fun _=>⟨_,rfl,hg,fun i u hu=>?_⟩,fun x hx=>?_⟩
 ·have hu:([.int .i64 q,.slice A n c]:List Value)[i]? = some u:=hu
  rw[Addr.add_lit,Z22,hk.cell i,←hu]
  simp
 ·rcases Z23.1 hx with e | e
  ·subst e;exact SlX.ofow h hX
  ·cases e
theorem MkS.fp {w0 wx:World} {b gk gm:Nat} {ac th su:Int} {V I F M:Value} {P:List Cst} {ifs:List Int} {fs ms:List MmE} (h:MkS w0 wx b gk gm ac th su V I F M P ifs fs ms) {k:Nat} (hk:wx.heap.size≤k):¬MkG gk gm V I F M k:=fun e=>by have:=(h.foot k e).2;omega
def MakeQ (w:World) (ac:Int) (R:Option Img) (e:Ending) (w':World):Prop:=(match R with
 | some m=>∃(gk gm:Nat) (V:Value) (y:ImE),y.p=m∧V = .slice y.pA y.pn y.pc∧y.minor=0∧y.major=52∧y.access=ac∧y.as_=[]∧y.aA=none∧y.an=0∧y.ac=0∧MkS w w' w'.heap.size gk gm ac y.this y.super V (.slice y.iA y.i_n y.ic) (.slice y.fA y.fn y.fc) (.slice y.mA y.mn y.mc) y.pool y.ifs y.fs y.ms∧e = .returned (.tuple #[.agg (imC y),.int .i64 0])
 | none=>e = .returned (.tuple #[.agg imZ,.int .i64 24]))∧Below w.heap.size w w'
def MakePost (w:World) (c:Cls) (pool:List Cst) (e:Ending) (w':World):Prop:=MakeQ w c.access (makeK c pool) e w'
theorem W9w {P:List Cst} {x q:Cst} {i:Nat} (hx:idxK P x=some i):idxK (P++[x]) q=idxK P q:=by
 unfold idxK at hx ⊢;cases P with
 | nil=>cases hx
 | cons a R=>
  rw[List.cons_append,List.drop_one,List.tail_cons,List.findIdx?_append];rw[List.drop_one,List.tail_cons]at hx ⊢;by_cases h:q=x
  ·subst h
   rw[hx]
   rfl
  ·have e:List.findIdx? (fun y=>decide (y=q)) [x]=none:=by
    have:¬x=q:=fun e=>h e.symm
    simp [this]
   rw[e];cases List.findIdx? (fun y=>decide (y=q)) R <;> rfl
theorem X8m {P:List Cst} {x q:Cst} {i:Nat} (hx:idxK P x=some i):SeenP (P++[x]) q=SeenP P q:=by
 unfold SeenP;rw[W9w hx]
open Go.RowKit
set_option linter.unusedSimpArgs false
theorem Y8n {α:Type} {L M:List α} {k:Nat} {x y:α} (h:L.take k=M.take k) (hx:L[k]? = some x) (hy:M[k]? = some y) (hd:x=y):L.take (k+1)=M.take (k+1):=by
 rw[Z40,Z40,hx,hy,h,hd]
theorem Y8k {α:Type} {L M:List α} {k:Nat} {x y:α} (hx:L[k]? = some x) (hy:M[k]? = some y) (hd:¬x=y):¬L=M:=fun e=>hd (by rw[e,hy]at hx;injection hx with h;exact h.symm)
theorem X6h {w:World} {B:Nat} {A:Option Addr} {l:List (List UInt8)} (h:RS txC w B A l):RL strQ w B A l:=by
 unfold RS at h;unfold RL
 have e:l.flatMap txC=l.map strQ:=by
  clear h
  induction l with
  | nil=>rfl
  | cons a r ih=>rw[Z27,List.map_cons,ih];rfl
 rwa [e]at h
theorem W9l {x y:Vt} (h0:x.kind=y.kind) (h1:x.name=y.name) (h2:x.at_=y.at_):x=y:=by cases x;cases y;simp_all
theorem W8y {x y:Hnd} (h0:x.from_=y.from_) (h1:x.to_=y.to_) (h2:x.at_=y.at_) (h3:x.name=y.name):x=y:=by cases x;cases y;simp_all
theorem W8x {x y:Fld} (h0:x.access=y.access) (h1:x.name=y.name) (h2:x.desc=y.desc) (h3:x.const=y.const):x=y:=by cases x;cases y;simp_all
theorem Y0q (A1 A2:Option Addr) (n1 c1 n2 c2:Nat) (L1 L2:List (List UInt8)) (w:World) (h1:L1.length=n1) (h2:L2.length=n2) (hb1:(n1:Int)≤9223372036854775807)
  (r1:RL strQ w w.heap.size A1 L1) (r2:RL strQ w w.heap.size A2 L2) :
  Calls Tryd.prog 23 #[.slice A1 n1 c1,.slice A2 n2 c2] w fun e w'=>e = .returned (.bool (decide (L1=L2)))∧∃q,w'=w.drewN q:=by
 have Wp:=bx h1;have Xl:=bx h2;have Xd:=bx r1;have Wx:=bx r2;clear h1 h2 r1 r2;by_cases he:n1=n2
 ·have he1:((n1:Int) != (n2:Int))=false:=by simp [he]
  have HE:=bx he;obtain⟨R,hR⟩:∃R,decide (L1=L2)=R:=⟨_,rfl⟩;rw[hR];have HR:=bx hR;have Xm:Bx (L1.take 0=L2.take 0):=bx rfl;have Wj:Bx (∃m,w=w.drewN m):=bx ⟨0,rfl⟩;clear he hR
  go_enter Tryd.func23,Tryd.ntmps23
  go_wp2
  go_loopw [13] (fun i wr=>∃k:Nat,k≤n1∧i = .int .i64 (k:Int)∧Bx (L1.take k=L2.take k)∧Bx (∃m,wr=w.drewN m)) (fun i _=>n1-(intOf i).toNat)
  case atStart=>exact⟨0,by omega,rfl,Xm,Wj⟩
  case round=>
   clear Xm Wj;obtain⟨k,hk,rfl,HQ,HW⟩:=hrel;by_cases hk0:k<n1
   ·have hk1:k<n2:=by have:=HE.out;omega
    have hkI:(k:Int)<(n1:Int):=(by omega);have hkI2:(k:Int)<(n2:Int):=(by omega);have hRR:RL strQ wr wr.heap.size A1 L1∧RL strQ wr wr.heap.size A2 L2:=by obtain⟨m,e⟩:=HW.out;rw[e];exact⟨Xd.out.drewN m,Wx.out.drewN m⟩
    obtain⟨ad,x,rfl,hl1,HX,p0⟩:=RL.atl hRR.1 (k:=k) (by rw[Wp.out];exact hk0);obtain⟨bd,y,rfl,hl2,HY,q0⟩:=RL.atl hRR.2 (k:=k) (by rw[Xl.out];exact hk1);unfold strQ at p0 q0;clear hRR hl1 hl2;by_cases he:x=y
    ·have Xq:=bx (Y8n HQ.out HX.out HY.out he)
     subst he;clear HQ;go_wp2;go_quiet (fail)
     have Yk:Bx (∀nq,∃m,wr.drewN nq=w.drewN m):=bx (fun nq=>by obtain⟨m,e⟩:=HW.out;rw[e];exact⟨m+nq,World.drewN_drewN _ _ _⟩);go_wp2;go_roundw
     case rel=>exact⟨k+1,by omega,by go_num,Xq,bx (Yk.out _)⟩
     case measure=>simp [intOf];omega
    ·have Wy:=bx he
     have HN:Bx (R=false):=bx (by rw[←HR.out];exact Z48 (Y8k HX.out HY.out he));have hbt:(!x==y)=true:=(by simp [he]);clear HQ;go_wp2;go_quiet (fail)
     have Yk:Bx (∀nq,∃m,wr.drewN nq=w.drewN m):=bx (fun nq=>by obtain⟨m,e⟩:=HW.out;rw[e];exact⟨m+nq,World.drewN_drewN _ _ _⟩)
     (try rw[hbt])
     go_wp2;go_ret;exact⟨by rw[HN.out];rfl,Yk.out _⟩
   ·obtain rfl:n1=k:=by omega
    have hkI:¬(n1:Int)<(n1:Int):=(by omega);have HN:Bx (R=true):=bx (by have h9:=HQ.out;rw[Z15 (by rw[Wp.out];exact Z00 _),Z15 (by rw[Xl.out,←HE.out];exact Z00 _)]at h9;rw[←HR.out];exact Z47 h9);clear HQ;go_wp2;go_ret;exact⟨by rw[HN.out];rfl,HW.out⟩
 ·have he1:((n1:Int) != (n2:Int))=true:=by simp;omega
  have hne:decide (L1=L2)=false:=Z48 (fun e=>he (by have:=congrArg List.length e;rw[Wp.out,Xl.out]at this;exact this));rw[hne];clear he hne
  go_enter Tryd.func23,Tryd.ntmps23
  go_wp2;go_ret;exact⟨rfl,0,rfl⟩
theorem Y0x (A1 A2:Option Addr) (n1 c1 n2 c2:Nat) (L1 L2:List UInt8) (w:World) (h1:L1.length=n1) (h2:L2.length=n2) (hb1:(n1:Int)≤9223372036854775807)
  (r1:RB w w.heap.size A1 L1) (r2:RB w w.heap.size A2 L2) :
  Calls Tryd.prog 27 #[.slice A1 n1 c1,.slice A2 n2 c2] w fun e w'=>e = .returned (.bool (decide (L1=L2)))∧∃q,w'=w.drewN q:=by
 have Wp:=bx h1;have Xl:=bx h2;have Xd:=bx r1;have Wx:=bx r2;clear h1 h2 r1 r2;by_cases he:n1=n2
 ·have he1:((n1:Int) != (n2:Int))=false:=by simp [he]
  have HE:=bx he;obtain⟨R,hR⟩:∃R,decide (L1=L2)=R:=⟨_,rfl⟩;rw[hR];have HR:=bx hR;have Xm:Bx (L1.take 0=L2.take 0):=bx rfl;have Wj:Bx (∃m,w=w.drewN m):=bx ⟨0,rfl⟩;clear he hR
  go_enter Tryd.func27,Tryd.ntmps27
  go_wp2
  go_loopw [13] (fun i wr=>∃k:Nat,k≤n1∧i = .int .i64 (k:Int)∧Bx (L1.take k=L2.take k)∧Bx (∃m,wr=w.drewN m)) (fun i _=>n1-(intOf i).toNat)
  case atStart=>exact⟨0,by omega,rfl,Xm,Wj⟩
  case round=>
   clear Xm Wj;obtain⟨k,hk,rfl,HQ,HW⟩:=hrel;by_cases hk0:k<n1
   ·have hk1:k<n2:=by have:=HE.out;omega
    have hkI:(k:Int)<(n1:Int):=(by omega);have hkI2:(k:Int)<(n2:Int):=(by omega);have hRR:RB wr wr.heap.size A1 L1∧RB wr wr.heap.size A2 L2:=by obtain⟨m,e⟩:=HW.out;rw[e];exact⟨Xd.out.drewN m,Wx.out.drewN m⟩
    obtain⟨ad,x,rfl,hl1,HX,p0⟩:=RL.atl hRR.1 (k:=k) (by rw[Wp.out];exact hk0);obtain⟨bd,y,rfl,hl2,HY,q0⟩:=RL.atl hRR.2 (k:=k) (by rw[Xl.out];exact hk1);unfold bV at p0 q0;clear hRR hl1 hl2;by_cases he:x=y
    ·have Xq:=bx (Y8n HQ.out HX.out HY.out he)
     subst he;clear HQ;go_wp2;go_quiet (fail)
     have Yk:Bx (∀nq,∃m,wr.drewN nq=w.drewN m):=bx (fun nq=>by obtain⟨m,e⟩:=HW.out;rw[e];exact⟨m+nq,World.drewN_drewN _ _ _⟩);go_wp2;go_roundw
     case rel=>exact⟨k+1,by omega,by go_num,Xq,bx (Yk.out _)⟩
     case measure=>simp [intOf];omega
    ·have Wy:=bx he
     have HN:Bx (R=false):=bx (by rw[←HR.out];exact Z48 (Y8k HX.out HY.out he));have hne:¬(x.toNat:Int)=(y.toNat:Int):=fun e=>he (UInt8.toNat_inj.1 (by omega));have hbt:((x.toNat:Int) != (y.toNat:Int))=true:=(by simpa using hne);clear HQ he;go_wp2;go_quiet (fail)
     have Yk:Bx (∀nq,∃m,wr.drewN nq=w.drewN m):=bx (fun nq=>by obtain⟨m,e⟩:=HW.out;rw[e];exact⟨m+nq,World.drewN_drewN _ _ _⟩)
     (try rw[hbt])
     go_wp2;go_ret;exact⟨by rw[HN.out];rfl,Yk.out _⟩
   ·obtain rfl:n1=k:=by omega
    have hkI:¬(n1:Int)<(n1:Int):=(by omega);have HN:Bx (R=true):=bx (by have h9:=HQ.out;rw[Z15 (by rw[Wp.out];exact Z00 _),Z15 (by rw[Xl.out,←HE.out];exact Z00 _)]at h9;rw[←HR.out];exact Z47 h9);clear HQ;go_wp2;go_ret;exact⟨by rw[HN.out];rfl,HW.out⟩
 ·have he1:((n1:Int) != (n2:Int))=true:=by simp;omega
  have hne:decide (L1=L2)=false:=Z48 (fun e=>he (by have:=congrArg List.length e;rw[Wp.out,Xl.out]at this;exact this));rw[hne];clear he hne
  go_enter Tryd.func27,Tryd.ntmps27
  go_wp2;go_ret;exact⟨rfl,0,rfl⟩
theorem Y0g (A1 A2:Option Addr) (n1 c1 n2 c2:Nat) (L1 L2:List Fld) (w:World) (h1:L1.length=n1) (h2:L2.length=n2) (hb1:(n1:Int)≤9223372036854775807)
  (r1:RS flC w w.heap.size A1 L1) (r2:RS flC w w.heap.size A2 L2) :
  Calls Tryd.prog 24 #[.slice A1 n1 c1,.slice A2 n2 c2] w fun e w'=>e = .returned (.bool (decide (L1=L2)))∧∃q,w'=w.drewN q:=by
 have Wp:=bx h1;have Xl:=bx h2;have Xd:=bx r1;have Wx:=bx r2;clear h1 h2 r1 r2;by_cases he:n1=n2
 ·have he1:((n1:Int) != (n2:Int))=false:=by simp [he]
  have HE:=bx he;obtain⟨R,hR⟩:∃R,decide (L1=L2)=R:=⟨_,rfl⟩;rw[hR];have HR:=bx hR;have Xm:Bx (L1.take 0=L2.take 0):=bx rfl;have Wj:Bx (∃m,w=w.drewN m):=bx ⟨0,rfl⟩;clear he hR
  go_enter Tryd.func24,Tryd.ntmps24
  go_wp2
  go_loopw [13] (fun i wr=>∃k:Nat,k≤n1∧i = .int .i64 (k:Int)∧Bx (L1.take k=L2.take k)∧Bx (∃m,wr=w.drewN m)) (fun i _=>n1-(intOf i).toNat)
  case atStart=>exact⟨0,by omega,rfl,Xm,Wj⟩
  case round=>
   clear Xm Wj;obtain⟨k,hk,rfl,HQ,HW⟩:=hrel;by_cases hk0:k<n1
   ·have hk1:k<n2:=by have:=HE.out;omega
    have hkI:(k:Int)<(n1:Int):=(by omega);have hkI2:(k:Int)<(n2:Int):=(by omega);have hRR:RS flC wr wr.heap.size A1 L1∧RS flC wr wr.heap.size A2 L2:=by obtain⟨m,e⟩:=HW.out;rw[e];exact⟨Xd.out.drewN m,Wx.out.drewN m⟩
    obtain⟨ad,x,rfl,hl1,HX,pp0,pp1⟩:=hRR.1.at_ flCels (k:=k) (by rw[Wp.out];exact hk0);obtain⟨bd,y,rfl,hl2,HY,qq0,qq1⟩:=hRR.2.at_ flCels (k:=k) (by rw[Xl.out];exact hk1);have p0:=pp0 _ rfl;have p1:=pp1 0 _ rfl;have p2:=pp1 1 _ rfl;have p3:=pp1 2 _ rfl;have q0:=qq0 _ rfl;have q1:=qq1 0 _ rfl;have q2:=qq1 1 _ rfl;have q3:=qq1 2 _ rfl;simp only[Z22,Nat.reduceAdd]at p1 p2 p3 q1 q2 q3;unfold strQ at p1 p2 q1 q2;clear hRR pp0 pp1 qq0 qq1 hl1 hl2;by_cases he:x=y
    ·have Xq:=bx (Y8n HQ.out HX.out HY.out he)
     subst he;clear HQ;go_wp2;go_quiet (fail)
     have Yk:Bx (∀nq,∃m,wr.drewN nq=w.drewN m):=bx (fun nq=>by obtain⟨m,e⟩:=HW.out;rw[e];exact⟨m+nq,World.drewN_drewN _ _ _⟩);go_wp2;go_roundw
     case rel=>exact⟨k+1,by omega,by go_num,Xq,bx (Yk.out _)⟩
     case measure=>simp [intOf];omega
    ·have Wy:=bx he
     have HN:Bx (R=false):=bx (by rw[←HR.out];exact Z48 (Y8k HX.out HY.out he));clear HQ he;by_cases e0:x.access=y.access
     ·rw[e0]at p0
      by_cases e1:x.name=y.name
      ·rw[e1]at p1
       by_cases e2:x.desc=y.desc
       ·rw[e2]at p2
        have hlast:¬x.const=y.const:=fun e=>Wy.out (W8x e0 e1 e2 e);clear e0 e1 e2;go_wp2;go_quiet (fail)
        have Yk:Bx (∀nq,∃m,wr.drewN nq=w.drewN m):=bx (fun nq=>by obtain⟨m,e⟩:=HW.out;rw[e];exact⟨m+nq,World.drewN_drewN _ _ _⟩);go_wp2;go_ret;exact⟨by rw[HN.out];rfl,Yk.out _⟩
       ·have en:=e2
        go_wp2;go_quiet (fail)
        have Yk:Bx (∀nq,∃m,wr.drewN nq=w.drewN m):=bx (fun nq=>by obtain⟨m,e⟩:=HW.out;rw[e];exact⟨m+nq,World.drewN_drewN _ _ _⟩);go_wp2;go_ret;exact⟨by rw[HN.out];rfl,Yk.out _⟩
      ·have en:=e1
       go_wp2;go_quiet (fail)
       have Yk:Bx (∀nq,∃m,wr.drewN nq=w.drewN m):=bx (fun nq=>by obtain⟨m,e⟩:=HW.out;rw[e];exact⟨m+nq,World.drewN_drewN _ _ _⟩);go_wp2;go_ret;exact⟨by rw[HN.out];rfl,Yk.out _⟩
     ·have en:=e0
      go_wp2;go_quiet (fail)
      have Yk:Bx (∀nq,∃m,wr.drewN nq=w.drewN m):=bx (fun nq=>by obtain⟨m,e⟩:=HW.out;rw[e];exact⟨m+nq,World.drewN_drewN _ _ _⟩);go_wp2;go_ret;exact⟨by rw[HN.out];rfl,Yk.out _⟩
   ·obtain rfl:n1=k:=by omega
    have hkI:¬(n1:Int)<(n1:Int):=(by omega);have HN:Bx (R=true):=bx (by have h9:=HQ.out;rw[Z15 (by rw[Wp.out];exact Z00 _),Z15 (by rw[Xl.out,←HE.out];exact Z00 _)]at h9;rw[←HR.out];exact Z47 h9);clear HQ;go_wp2;go_ret;exact⟨by rw[HN.out];rfl,HW.out⟩
 ·have he1:((n1:Int) != (n2:Int))=true:=by simp;omega
  have hne:decide (L1=L2)=false:=Z48 (fun e=>he (by have:=congrArg List.length e;rw[Wp.out,Xl.out]at this;exact this));rw[hne];clear he hne
  go_enter Tryd.func24,Tryd.ntmps24
  go_wp2;go_ret;exact⟨rfl,0,rfl⟩
theorem Y0h (A1 A2:Option Addr) (n1 c1 n2 c2:Nat) (L1 L2:List Hnd) (w:World) (h1:L1.length=n1) (h2:L2.length=n2) (hb1:(n1:Int)≤9223372036854775807)
  (r1:RS hnC w w.heap.size A1 L1) (r2:RS hnC w w.heap.size A2 L2) :
  Calls Tryd.prog 28 #[.slice A1 n1 c1,.slice A2 n2 c2] w fun e w'=>e = .returned (.bool (decide (L1=L2)))∧∃q,w'=w.drewN q:=by
 have Wp:=bx h1;have Xl:=bx h2;have Xd:=bx r1;have Wx:=bx r2;clear h1 h2 r1 r2;by_cases he:n1=n2
 ·have he1:((n1:Int) != (n2:Int))=false:=by simp [he]
  have HE:=bx he;obtain⟨R,hR⟩:∃R,decide (L1=L2)=R:=⟨_,rfl⟩;rw[hR];have HR:=bx hR;have Xm:Bx (L1.take 0=L2.take 0):=bx rfl;have Wj:Bx (∃m,w=w.drewN m):=bx ⟨0,rfl⟩;clear he hR
  go_enter Tryd.func28,Tryd.ntmps28
  go_wp2
  go_loopw [13] (fun i wr=>∃k:Nat,k≤n1∧i = .int .i64 (k:Int)∧Bx (L1.take k=L2.take k)∧Bx (∃m,wr=w.drewN m)) (fun i _=>n1-(intOf i).toNat)
  case atStart=>exact⟨0,by omega,rfl,Xm,Wj⟩
  case round=>
   clear Xm Wj;obtain⟨k,hk,rfl,HQ,HW⟩:=hrel;by_cases hk0:k<n1
   ·have hk1:k<n2:=by have:=HE.out;omega
    have hkI:(k:Int)<(n1:Int):=(by omega);have hkI2:(k:Int)<(n2:Int):=(by omega);have hRR:RS hnC wr wr.heap.size A1 L1∧RS hnC wr wr.heap.size A2 L2:=by obtain⟨m,e⟩:=HW.out;rw[e];exact⟨Xd.out.drewN m,Wx.out.drewN m⟩
    obtain⟨ad,x,rfl,hl1,HX,pp0,pp1⟩:=hRR.1.at_ hnCels (k:=k) (by rw[Wp.out];exact hk0);obtain⟨bd,y,rfl,hl2,HY,qq0,qq1⟩:=hRR.2.at_ hnCels (k:=k) (by rw[Xl.out];exact hk1);have p0:=pp0 _ rfl;have p1:=pp1 0 _ rfl;have p2:=pp1 1 _ rfl;have p3:=pp1 2 _ rfl;have q0:=qq0 _ rfl;have q1:=qq1 0 _ rfl;have q2:=qq1 1 _ rfl;have q3:=qq1 2 _ rfl;simp only[Z22,Nat.reduceAdd]at p1 p2 p3 q1 q2 q3;unfold strQ at p3 q3;clear hRR pp0 pp1 qq0 qq1 hl1 hl2;by_cases he:x=y
    ·have Xq:=bx (Y8n HQ.out HX.out HY.out he)
     subst he;clear HQ;go_wp2;go_quiet (fail)
     have Yk:Bx (∀nq,∃m,wr.drewN nq=w.drewN m):=bx (fun nq=>by obtain⟨m,e⟩:=HW.out;rw[e];exact⟨m+nq,World.drewN_drewN _ _ _⟩);go_wp2;go_roundw
     case rel=>exact⟨k+1,by omega,by go_num,Xq,bx (Yk.out _)⟩
     case measure=>simp [intOf];omega
    ·have Wy:=bx he
     have HN:Bx (R=false):=bx (by rw[←HR.out];exact Z48 (Y8k HX.out HY.out he));clear HQ he;by_cases e0:x.from_=y.from_
     ·rw[e0]at p0
      by_cases e1:x.to_=y.to_
      ·rw[e1]at p1
       by_cases e2:x.at_=y.at_
       ·rw[e2]at p2
        have hlast:¬x.name=y.name:=fun e=>Wy.out (W8y e0 e1 e2 e);clear e0 e1 e2;go_wp2;go_quiet (fail)
        have Yk:Bx (∀nq,∃m,wr.drewN nq=w.drewN m):=bx (fun nq=>by obtain⟨m,e⟩:=HW.out;rw[e];exact⟨m+nq,World.drewN_drewN _ _ _⟩);go_wp2;go_ret;exact⟨by rw[HN.out];rfl,Yk.out _⟩
       ·have en:=e2
        go_wp2;go_quiet (fail)
        have Yk:Bx (∀nq,∃m,wr.drewN nq=w.drewN m):=bx (fun nq=>by obtain⟨m,e⟩:=HW.out;rw[e];exact⟨m+nq,World.drewN_drewN _ _ _⟩);go_wp2;go_ret;exact⟨by rw[HN.out];rfl,Yk.out _⟩
      ·have en:=e1
       go_wp2;go_quiet (fail)
       have Yk:Bx (∀nq,∃m,wr.drewN nq=w.drewN m):=bx (fun nq=>by obtain⟨m,e⟩:=HW.out;rw[e];exact⟨m+nq,World.drewN_drewN _ _ _⟩);go_wp2;go_ret;exact⟨by rw[HN.out];rfl,Yk.out _⟩
     ·have en:=e0
      go_wp2;go_quiet (fail)
      have Yk:Bx (∀nq,∃m,wr.drewN nq=w.drewN m):=bx (fun nq=>by obtain⟨m,e⟩:=HW.out;rw[e];exact⟨m+nq,World.drewN_drewN _ _ _⟩);go_wp2;go_ret;exact⟨by rw[HN.out];rfl,Yk.out _⟩
   ·obtain rfl:n1=k:=by omega
    have hkI:¬(n1:Int)<(n1:Int):=(by omega);have HN:Bx (R=true):=bx (by have h9:=HQ.out;rw[Z15 (by rw[Wp.out];exact Z00 _),Z15 (by rw[Xl.out,←HE.out];exact Z00 _)]at h9;rw[←HR.out];exact Z47 h9);clear HQ;go_wp2;go_ret;exact⟨by rw[HN.out];rfl,HW.out⟩
 ·have he1:((n1:Int) != (n2:Int))=true:=by simp;omega
  have hne:decide (L1=L2)=false:=Z48 (fun e=>he (by have:=congrArg List.length e;rw[Wp.out,Xl.out]at this;exact this));rw[hne];clear he hne
  go_enter Tryd.func28,Tryd.ntmps28
  go_wp2;go_ret;exact⟨rfl,0,rfl⟩
theorem Y4e (A1 A2:Option Addr) (n1 c1 n2 c2:Nat) (L1 L2:List Vt) (w:World) (h1:L1.length=n1) (h2:L2.length=n2) (hb1:(n1:Int)≤9223372036854775807)
  (r1:RS vtC w w.heap.size A1 L1) (r2:RS vtC w w.heap.size A2 L2) :
  Calls Tryd.prog 31 #[.slice A1 n1 c1,.slice A2 n2 c2] w fun e w'=>e = .returned (.bool (decide (L1=L2)))∧∃q,w'=w.drewN q:=by
 have Wp:=bx h1;have Xl:=bx h2;have Xd:=bx r1;have Wx:=bx r2;clear h1 h2 r1 r2;by_cases he:n1=n2
 ·have he1:((n1:Int) != (n2:Int))=false:=by simp [he]
  have HE:=bx he;obtain⟨R,hR⟩:∃R,decide (L1=L2)=R:=⟨_,rfl⟩;rw[hR];have HR:=bx hR;have Xm:Bx (L1.take 0=L2.take 0):=bx rfl;have Wj:Bx (∃m,w=w.drewN m):=bx ⟨0,rfl⟩;clear he hR
  go_enter Tryd.func31,Tryd.ntmps31
  go_wp2
  go_loopw [13] (fun i wr=>∃k:Nat,k≤n1∧i = .int .i64 (k:Int)∧Bx (L1.take k=L2.take k)∧Bx (∃m,wr=w.drewN m)) (fun i _=>n1-(intOf i).toNat)
  case atStart=>exact⟨0,by omega,rfl,Xm,Wj⟩
  case round=>
   clear Xm Wj;obtain⟨k,hk,rfl,HQ,HW⟩:=hrel;by_cases hk0:k<n1
   ·have hk1:k<n2:=by have:=HE.out;omega
    have hkI:(k:Int)<(n1:Int):=(by omega);have hkI2:(k:Int)<(n2:Int):=(by omega);have hRR:RS vtC wr wr.heap.size A1 L1∧RS vtC wr wr.heap.size A2 L2:=by obtain⟨m,e⟩:=HW.out;rw[e];exact⟨Xd.out.drewN m,Wx.out.drewN m⟩
    obtain⟨ad,x,rfl,hl1,HX,pp0,pp1⟩:=hRR.1.at_ vtCels (k:=k) (by rw[Wp.out];exact hk0);obtain⟨bd,y,rfl,hl2,HY,qq0,qq1⟩:=hRR.2.at_ vtCels (k:=k) (by rw[Xl.out];exact hk1);have p0:=pp0 _ rfl;have p1:=pp1 0 _ rfl;have p2:=pp1 1 _ rfl;have q0:=qq0 _ rfl;have q1:=qq1 0 _ rfl;have q2:=qq1 1 _ rfl;simp only[Z22,Nat.reduceAdd]at p1 p2 q1 q2;unfold strQ at p1 q1;clear hRR pp0 pp1 qq0 qq1 hl1 hl2;by_cases he:x=y
    ·have Xq:=bx (Y8n HQ.out HX.out HY.out he)
     subst he;clear HQ;go_wp2;go_quiet (fail)
     have Yk:Bx (∀nq,∃m,wr.drewN nq=w.drewN m):=bx (fun nq=>by obtain⟨m,e⟩:=HW.out;rw[e];exact⟨m+nq,World.drewN_drewN _ _ _⟩);go_wp2;go_roundw
     case rel=>exact⟨k+1,by omega,by go_num,Xq,bx (Yk.out _)⟩
     case measure=>simp [intOf];omega
    ·have Wy:=bx he
     have HN:Bx (R=false):=bx (by rw[←HR.out];exact Z48 (Y8k HX.out HY.out he));clear HQ he;by_cases e0:x.kind=y.kind
     ·rw[e0]at p0
      by_cases e1:x.name=y.name
      ·rw[e1]at p1
       have hlast:¬x.at_=y.at_:=fun e=>Wy.out (W9l e0 e1 e);clear e0 e1;go_wp2;go_quiet (fail)
       have Yk:Bx (∀nq,∃m,wr.drewN nq=w.drewN m):=bx (fun nq=>by obtain⟨m,e⟩:=HW.out;rw[e];exact⟨m+nq,World.drewN_drewN _ _ _⟩);go_wp2;go_ret;exact⟨by rw[HN.out];rfl,Yk.out _⟩
      ·have en:=e1
       go_wp2;go_quiet (fail)
       have Yk:Bx (∀nq,∃m,wr.drewN nq=w.drewN m):=bx (fun nq=>by obtain⟨m,e⟩:=HW.out;rw[e];exact⟨m+nq,World.drewN_drewN _ _ _⟩);go_wp2;go_ret;exact⟨by rw[HN.out];rfl,Yk.out _⟩
     ·have en:=e0
      go_wp2;go_quiet (fail)
      have Yk:Bx (∀nq,∃m,wr.drewN nq=w.drewN m):=bx (fun nq=>by obtain⟨m,e⟩:=HW.out;rw[e];exact⟨m+nq,World.drewN_drewN _ _ _⟩);go_wp2;go_ret;exact⟨by rw[HN.out];rfl,Yk.out _⟩
   ·obtain rfl:n1=k:=by omega
    have hkI:¬(n1:Int)<(n1:Int):=(by omega);have HN:Bx (R=true):=bx (by have h9:=HQ.out;rw[Z15 (by rw[Wp.out];exact Z00 _),Z15 (by rw[Xl.out,←HE.out];exact Z00 _)]at h9;rw[←HR.out];exact Z47 h9);clear HQ;go_wp2;go_ret;exact⟨by rw[HN.out];rfl,HW.out⟩
 ·have he1:((n1:Int) != (n2:Int))=true:=by simp;omega
  have hne:decide (L1=L2)=false:=Z48 (fun e=>he (by have:=congrArg List.length e;rw[Wp.out,Xl.out]at this;exact this));rw[hne];clear he hne
  go_enter Tryd.func31,Tryd.ntmps31
  go_wp2;go_ret;exact⟨rfl,0,rfl⟩
open Go.RowKit
set_option linter.unusedSimpArgs false
theorem Y4n {x y:FrE}:x.p=y.p↔x.tag=y.tag∧x.delta=y.delta∧x.l.l=y.l.l∧x.s.l=y.s.l:=by
 unfold FrE.p
 simp
theorem Y1v {w w':World} {x:Sq Vt} (h:SqX vtC w (fun k=>k<w.heap.size) x) (hb:Below w.heap.size w w'):x.l.length=x.n∧(x.n:Int)≤9223372036854775807∧RS vtC w' w'.heap.size x.A x.l:=
 ⟨h.1,by have:=h.2.1;have:=h.2.2.1;omega,(h.rs (fun _ h=>h)).step hb⟩
theorem X8f (x y:FrE) (w:World) (hx:FrX w (fun k=>k<w.heap.size) x) (hy:FrX w (fun k=>k<w.heap.size) y) :
  Calls Tryd.prog 30 #[.agg #[.int .i64 x.tag,.int .i64 x.delta,.slice x.l.A x.l.n x.l.c,.slice x.s.A x.s.n x.s.c],.agg #[.int .i64 y.tag,.int .i64 y.delta,.slice y.l.A y.l.n y.l.c,.slice y.s.A y.s.n y.s.c]] w fun e w'=>e = .returned (.bool (decide (x.p=y.p)))∧Below w.heap.size w w':=by
 have HX:=bx hx;have HY:=bx hy;obtain⟨R,hR⟩:∃R,decide (x.p=y.p)=R:=⟨_,rfl⟩;rw[hR];have HR:Bx (R=decide (x.tag=y.tag∧x.delta=y.delta∧x.l.l=y.l.l∧x.s.l=y.s.l)):=bx (by rw[←hR];exact decide_eq_decide.2 Y4n);obtain⟨g1,hg1⟩:∃g1,w.heap.size=g1:=⟨_,rfl⟩;have hb1:=Y9z (Below.refl w.heap.size w) (Z00 _) (.cells #[.int .i64 x.tag,.int .i64 x.delta,.slice x.l.A x.l.n x.l.c,.slice x.s.A x.s.n x.s.c] 77);have hk1:=Bk.newAt w 77 #[.int .i64 x.tag,.int .i64 x.delta,.slice x.l.A x.l.n x.l.c,.slice x.s.A x.s.n x.s.c] hg1;obtain⟨w1,hw1⟩:∃w1,w.alloc (.cells #[.int .i64 x.tag,.int .i64 x.delta,.slice x.l.A x.l.n x.l.c,.slice x.s.A x.s.n x.s.c] 77)=w1:=⟨_,rfl⟩;rw[hw1]at hb1 hk1;obtain⟨g2,hg2⟩:∃g2,w1.heap.size=g2:=⟨_,rfl⟩;have hb2:=Y9z hb1 (Z00 _) (.cells #[.int .i64 y.tag,.int .i64 y.delta,.slice y.l.A y.l.n y.l.c,.slice y.s.A y.s.n y.s.c] 77);have hk1b:=hk1.alloc (.cells #[.int .i64 y.tag,.int .i64 y.delta,.slice y.l.A y.l.n y.l.c,.slice y.s.A y.s.n y.s.c] 77);have hk2:=Bk.newAt w1 77 #[.int .i64 y.tag,.int .i64 y.delta,.slice y.l.A y.l.n y.l.c,.slice y.s.A y.s.n y.s.c] hg2;obtain⟨w2,hw2⟩:∃w2,w1.alloc (.cells #[.int .i64 y.tag,.int .i64 y.delta,.slice y.l.A y.l.n y.l.c,.slice y.s.A y.s.n y.s.c] 77)=w2:=⟨_,rfl⟩;rw[hw2]at hb2 hk1b hk2;have HB:=bx hb2;have p0:w2.cell? ⟨g1,0,none⟩=some (.int .i64 x.tag):=(hk1b.cell 0).trans rfl;have p1:w2.cell? ⟨g1,1,none⟩=some (.int .i64 x.delta):=(hk1b.cell 1).trans rfl;have p2:w2.cell? ⟨g1,2,none⟩=some (.slice x.l.A x.l.n x.l.c):=(hk1b.cell 2).trans rfl;have p3:w2.cell? ⟨g1,3,none⟩=some (.slice x.s.A x.s.n x.s.c):=(hk1b.cell 3).trans rfl;have q0:w2.cell? ⟨g2,0,none⟩=some (.int .i64 y.tag):=(hk2.cell 0).trans rfl;have q1:w2.cell? ⟨g2,1,none⟩=some (.int .i64 y.delta):=(hk2.cell 1).trans rfl;have q2:w2.cell? ⟨g2,2,none⟩=some (.slice y.l.A y.l.n y.l.c):=(hk2.cell 2).trans rfl;have q3:w2.cell? ⟨g2,3,none⟩=some (.slice y.s.A y.s.n y.s.c):=(hk2.cell 3).trans rfl;obtain⟨bl,hbl⟩:∃bl,decide (x.l.l=y.l.l)=bl:=⟨_,rfl⟩;obtain⟨bs,hbs⟩:∃bs,decide (x.s.l=y.s.l)=bs:=⟨_,rfl⟩
 have Qr:Bx (∀nq,Calls Tryd.prog 31 #[.slice x.l.A x.l.n x.l.c,.slice y.l.A y.l.n y.l.c] (w2.drewN nq) fun e w'=>e = .returned (.bool bl)∧∃q,w'=w2.drewN q):=bx (fun nq=>by
  rw[←hbl];have a:=Y1v hx.l hb2;have b:=Y1v hy.l hb2
  exact(Y4e _ _ _ _ _ _ _ _ _ a.1 b.1 a.2.1 (a.2.2.drewN nq) (b.2.2.drewN nq)).mono (fun e w' h=>⟨h.1,by obtain⟨q,hq⟩:=h.2;exact⟨nq+q,by rw[hq];exact World.drewN_drewN _ _ _⟩⟩))
 have Yt:Bx (∀nq,Calls Tryd.prog 31 #[.slice x.s.A x.s.n x.s.c,.slice y.s.A y.s.n y.s.c] (w2.drewN nq) fun e w'=>e = .returned (.bool bs)∧∃q,w'=w2.drewN q):=bx (fun nq=>by
  rw[←hbs];have a:=Y1v hx.s hb2;have b:=Y1v hy.s hb2
  exact(Y4e _ _ _ _ _ _ _ _ _ a.1 b.1 a.2.1 (a.2.2.drewN nq) (b.2.2.drewN nq)).mono (fun e w' h=>⟨h.1,by obtain⟨q,hq⟩:=h.2;exact⟨nq+q,by rw[hq];exact World.drewN_drewN _ _ _⟩⟩))
 have Kw:=bx hbl;have Mx:=bx hbs;clear hx hy hR hb1 hb2 hk1 hk1b hk2 hbl hbs;by_cases ht:x.tag=y.tag
 ·rw[ht]at p0 hw1 ⊢
  by_cases hd:x.delta=y.delta
  ·rw[hd]at p1 hw1 ⊢
   have Zi:Bx (R=(bl&&bs)):=bx (by rw[HR.out,←Kw.out,←Mx.out,←Bool.decide_and];exact decide_eq_decide.2 ⟨fun h=>h.2.2,fun h=>⟨ht,hd,h⟩⟩);clear ht hd;cases bl with
   | false=>
    go_enter Tryd.func30,Tryd.ntmps30
    go_wp2_with (go_at_call 31;refine(Qr.out 0).mono ?_;rintro e w3 ⟨rfl,q,rfl⟩)
    go_ret;exact⟨by rw[Zi.out];rfl,below_drewN HB.out _⟩
   | true=>
    go_enter Tryd.func30,Tryd.ntmps30
    go_wp2_with (first
     | (go_at_call 31;refine(Yt.out q).mono ?_;rintro e w4 ⟨rfl,q4,rfl⟩)
     | (go_at_call 31;refine(Qr.out 0).mono ?_;rintro e w3 ⟨rfl,q,rfl⟩))
    go_ret;exact⟨by rw[Zi.out];cases bs <;> rfl,below_drewN HB.out _⟩
  ·have hdb:(x.delta==y.delta)=false:=by simpa using hd
   have Zi:Bx (R=false):=bx (by rw[HR.out];exact Z48 (fun h=>hd h.2.1));clear hd ht
   go_enter Tryd.func30,Tryd.ntmps30
   go_wp2;go_ret;exact⟨by rw[Zi.out];rfl,HB.out⟩
 ·have htb:(x.tag==y.tag)=false:=by simpa using ht
  have Zi:Bx (R=false):=bx (by rw[HR.out];exact Z48 (fun h=>ht h.1));clear ht
  go_enter Tryd.func30,Tryd.ntmps30
  go_wp2;go_ret;exact⟨by rw[Zi.out];rfl,HB.out⟩
open Go.RowKit
set_option linter.unusedSimpArgs false
theorem Y6r {α β:Type} {f:α→β} {L M:List α} {k:Nat} {x y:α} (h:(L.take k).map f=(M.take k).map f) (hx:L[k]? = some x) (hy:M[k]? = some y) (hd:f x=f y):(L.take (k+1)).map f=(M.take (k+1)).map f:=by
 rw[Z40,Z40,hx,hy,Z34,Z34,h];show _++[f x]=_++[f y];rw[hd]
theorem Y7w {α β:Type} {f:α→β} {L M:List α} {k:Nat} {x y:α} (hx:L[k]? = some x) (hy:M[k]? = some y) (hd:¬f x=f y):¬L.map f=M.map f:=fun e=>hd (by
 have h:=congrArg (fun l=>l[k]?) e;simp only[List.getElem?_map,hx,hy]at h;injection h)
theorem X5s (A1 A2:Option Addr) (n1 c1 n2 c2:Nat) (L1 L2:List FrE) (w:World) (h1:L1.length=n1) (h2:L2.length=n2) (hb1:(n1:Int)≤9223372036854775807)
  (r1:RS frC w w.heap.size A1 L1) (r2:RS frC w w.heap.size A2 L2) (s1:∀x∈L1,FrX w (fun k=>k<w.heap.size) x) (s2:∀x∈L2,FrX w (fun k=>k<w.heap.size) x) :
  Calls Tryd.prog 29 #[.slice A1 n1 c1,.slice A2 n2 c2,.func (.func 30) #[] #[]] w fun e w'=>e = .returned (.bool (decide (L1.map FrE.p=L2.map FrE.p)))∧Below w.heap.size w w':=by
 have Wp:=bx h1;have Xl:=bx h2;have Xd:=bx r1;have Wx:=bx r2;have Sg:=bx s1;have Wf:=bx s2;clear h1 h2 r1 r2 s1 s2;by_cases he:n1=n2
 ·have he1:((n1:Int) != (n2:Int))=false:=by simp [he]
  have HE:=bx he;obtain⟨R,hR⟩:∃R,decide (L1.map FrE.p=L2.map FrE.p)=R:=⟨_,rfl⟩;rw[hR];have HR:=bx hR;have Xm:Bx ((L1.take 0).map FrE.p=(L2.take 0).map FrE.p):=bx rfl;have Wj:Bx (Below w.heap.size w w):=bx (Below.refl _ _);clear he hR
  go_enter Tryd.func29,Tryd.ntmps29
  go_wp2
  go_loopw [17] (fun i wr=>∃k:Nat,k≤n1∧i = .int .i64 (k:Int)∧Bx ((L1.take k).map FrE.p=(L2.take k).map FrE.p)∧Bx (Below w.heap.size w wr)) (fun i _=>n1-(intOf i).toNat)
  case atStart=>exact⟨0,by omega,rfl,Xm,Wj⟩
  case round=>
   clear Xm Wj;obtain⟨k,hk,rfl,HQ,HW⟩:=hrel;by_cases hk0:k<n1
   ·have hk1:k<n2:=by have:=HE.out;omega
    have hkI:(k:Int)<(n1:Int):=(by omega);have hkI2:(k:Int)<(n2:Int):=(by omega);obtain⟨ad,x,rfl,hlx,HX,pp0,pp1⟩:=(Xd.out.below HW.out (Z00 _)).at_ frCels (k:=k) (by rw[Wp.out];exact hk0);have p0:=pp0 _ rfl;have p1:=pp1 0 _ rfl;have p2:=pp1 1 _ rfl;have p3:=pp1 2 _ rfl;simp only[Z22,Nat.reduceAdd]at p1 p2 p3;unfold Sq.v at p2 p3;clear pp0 pp1 hlx;obtain⟨g1,hg1⟩:∃g1,wr.heap.size=g1:=⟨_,rfl⟩;have hbw:=HW.out;have hb1':=Y9z (Below.refl wr.heap.size wr) (Z00 _) (.cells #[.int .i64 x.tag,.int .i64 x.delta,.slice x.l.A x.l.n x.l.c,.slice x.s.A x.s.n x.s.c] 77);have hk1':=Bk.newAt wr 77 #[.int .i64 x.tag,.int .i64 x.delta,.slice x.l.A x.l.n x.l.c,.slice x.s.A x.s.n x.s.c] hg1;obtain⟨w1,hw1⟩:∃w1,wr.alloc (.cells #[.int .i64 x.tag,.int .i64 x.delta,.slice x.l.A x.l.n x.l.c,.slice x.s.A x.s.n x.s.c] 77)=w1:=⟨_,rfl⟩;rw[hw1]at hb1' hk1';have hbw1:=hbw.trans (hb1'.mono hbw.size);obtain⟨bd,y,rfl,hly,HY,qq0,qq1⟩:=(Wx.out.below hbw1 (Z00 _)).at_ frCels (k:=k) (by rw[Xl.out];exact hk1);have q0:=qq0 _ rfl;have q1:=qq1 0 _ rfl;have q2:=qq1 1 _ rfl;have q3:=qq1 2 _ rfl;simp only[Z22,Nat.reduceAdd]at q1 q2 q3;unfold Sq.v at q2 q3;clear qq0 qq1 hly;obtain⟨g2,hg2⟩:∃g2,w1.heap.size=g2:=⟨_,rfl⟩;have hb2':=Y9z (Below.refl w1.heap.size w1) (Z00 _) (.cells #[.int .i64 y.tag,.int .i64 y.delta,.slice y.l.A y.l.n y.l.c,.slice y.s.A y.s.n y.s.c] 77);have hk1b:=hk1'.alloc (.cells #[.int .i64 y.tag,.int .i64 y.delta,.slice y.l.A y.l.n y.l.c,.slice y.s.A y.s.n y.s.c] 77);have hk2':=Bk.newAt w1 77 #[.int .i64 y.tag,.int .i64 y.delta,.slice y.l.A y.l.n y.l.c,.slice y.s.A y.s.n y.s.c] hg2;obtain⟨w2,hw2⟩:∃w2,w1.alloc (.cells #[.int .i64 y.tag,.int .i64 y.delta,.slice y.l.A y.l.n y.l.c,.slice y.s.A y.s.n y.s.c] 77)=w2:=⟨_,rfl⟩;rw[hw2]at hb2' hk1b hk2';have Yu:=bx (hbw1.trans (hb2'.mono hbw1.size));have a0:w2.cell? ⟨g1,0,none⟩=some (.int .i64 x.tag):=(hk1b.cell 0).trans rfl;have a1:w2.cell? ⟨g1,1,none⟩=some (.int .i64 x.delta):=(hk1b.cell 1).trans rfl;have a2:w2.cell? ⟨g1,2,none⟩=some (.slice x.l.A x.l.n x.l.c):=(hk1b.cell 2).trans rfl;have a3:w2.cell? ⟨g1,3,none⟩=some (.slice x.s.A x.s.n x.s.c):=(hk1b.cell 3).trans rfl;have b0:w2.cell? ⟨g2,0,none⟩=some (.int .i64 y.tag):=(hk2'.cell 0).trans rfl;have b1:w2.cell? ⟨g2,1,none⟩=some (.int .i64 y.delta):=(hk2'.cell 1).trans rfl;have b2:w2.cell? ⟨g2,2,none⟩=some (.slice y.l.A y.l.n y.l.c):=(hk2'.cell 2).trans rfl;have b3:w2.cell? ⟨g2,3,none⟩=some (.slice y.s.A y.s.n y.s.c):=(hk2'.cell 3).trans rfl;have hsx:=(Sg.out x (Z16 HX.out)).step (fun k hk=>Yu.out.block k hk) (fun k hk=>Z07 hk Yu.out.size);have hsy:=(Wf.out y (Z16 HY.out)).step (fun k hk=>Yu.out.block k hk) (fun k hk=>Z07 hk Yu.out.size);have hsm:=X8f x y w2 hsx hsy;obtain⟨q,hq⟩:∃q,decide (x.p=y.p)=q:=⟨_,rfl⟩;rw[hq]at hsm;have Pg:=bx hsm;have X5:=bx hq;clear hbw hb1' hk1' hbw1 hb2' hk1b hk2' hsx hsy hsm hq;cases q with
    | true=>
     have Xq:=bx (Y6r HQ.out HX.out HY.out (Z49 X5.out));clear HQ;go_wp2_with (go_at_call 30;refine Pg.out.mono ?_;rintro e w3 ⟨rfl,hb3⟩;have Xv:=bx (Yu.out.trans (hb3.mono Yu.out.size));clear hb3)
     go_roundw
     case rel=>exact⟨k+1,by omega,by go_num,Xq,Xv⟩
     case measure=>simp [intOf];omega
    | false=>
     have HN:Bx (R=false):=bx (by rw[←HR.out];exact Z48 (Y7w HX.out HY.out (of_decide_eq_false X5.out)));clear HQ;go_wp2_with (go_at_call 30;refine Pg.out.mono ?_;rintro e w3 ⟨rfl,hb3⟩;have Xv:=bx (Yu.out.trans (hb3.mono Yu.out.size));clear hb3)
     go_ret;exact⟨by rw[HN.out];rfl,Xv.out⟩
   ·obtain rfl:n1=k:=by omega
    have hkI:¬(n1:Int)<(n1:Int):=(by omega);have HN:Bx (R=true):=bx (by have h9:=HQ.out;rw[Z15 (by rw[Wp.out];exact Z00 _),Z15 (by rw[Xl.out,←HE.out];exact Z00 _)]at h9;rw[←HR.out];exact Z47 h9);clear HQ;go_wp2;go_ret;exact⟨by rw[HN.out];rfl,HW.out⟩
 ·have he1:((n1:Int) != (n2:Int))=true:=by simp;omega
  have hne:decide (L1.map FrE.p=L2.map FrE.p)=false:=Z48 (fun e=>he (by have:=congrArg List.length e;rw[Z17,Z17,Wp.out,Xl.out]at this;exact this));rw[hne];clear he hne
  go_enter Tryd.func29,Tryd.ntmps29
  go_wp2;go_ret;exact⟨rfl,Below.refl _ _⟩
open Go.RowKit
set_option linter.unusedSimpArgs false
theorem W9g {x y:MtE}:x.p=y.p↔x.access=y.access∧x.name=y.name∧x.desc=y.desc∧x.there=y.there∧x.stack=y.stack∧x.locals=y.locals∧x.code.l=y.code.l∧x.hs.l=y.hs.l∧x.fs.l.map FrE.p=y.fs.l.map FrE.p:=by
 unfold MtE.p
 simp
theorem Y8o {α:Type} {fC:α→List Value} {w w':World} {x:Sq α} (h:SqX fC w (fun k=>k<w.heap.size) x) (hb:Below w.heap.size w w'):x.l.length=x.n∧(x.n:Int)≤9223372036854775807∧RS fC w' w'.heap.size x.A x.l:=
 ⟨h.1,by have:=h.2.1;have:=h.2.2.1;omega,(h.rs (fun _ h=>h)).step hb⟩
theorem X9a {w w':World} {x:Sl} (h:SlX w (fun k=>k<w.heap.size) x) (hb:Below w.heap.size w w'):x.l.length=x.n∧(x.n:Int)≤9223372036854775807∧RB w' w'.heap.size x.A x.l:=
 ⟨h.1,by have:=h.2.1;have:=h.2.2.1;omega,RL.step (h.slB (fun _ h=>h)).2.2.2 hb⟩
theorem X7t (x y:MtE) (w:World) (hx:MtX w (fun k=>k<w.heap.size) x) (hy:MtX w (fun k=>k<w.heap.size) y) :
  Calls Tryd.prog 26 #[.agg #[.int .i64 x.access,.string ⟨x.name.toArray⟩,.string ⟨x.desc.toArray⟩,.bool x.there,.int .i64 x.stack,.int .i64 x.locals,.slice x.code.A x.code.n x.code.c,.slice x.hs.A x.hs.n x.hs.c,.slice x.fs.A x.fs.n x.fs.c],.agg #[.int .i64 y.access,.string ⟨y.name.toArray⟩,.string ⟨y.desc.toArray⟩,.bool y.there,.int .i64 y.stack,.int .i64 y.locals,.slice y.code.A y.code.n y.code.c,.slice y.hs.A y.hs.n y.hs.c,.slice y.fs.A y.fs.n y.fs.c]] w fun e w'=>e = .returned (.bool (decide (x.p=y.p)))∧Below w.heap.size w w':=by
 obtain⟨R,hR⟩:∃R,decide (x.p=y.p)=R:=⟨_,rfl⟩;rw[hR];have HR:Bx (R=decide (x.access=y.access∧x.name=y.name∧x.desc=y.desc∧x.there=y.there∧x.stack=y.stack∧x.locals=y.locals∧x.code.l=y.code.l∧x.hs.l=y.hs.l∧x.fs.l.map FrE.p=y.fs.l.map FrE.p)):=bx (by rw[←hR];exact decide_eq_decide.2 W9g);obtain⟨g1,hg1⟩:∃g1,w.heap.size=g1:=⟨_,rfl⟩;have hb1:=Y9z (Below.refl w.heap.size w) (Z00 _) (.cells #[.int .i64 x.access,.string ⟨x.name.toArray⟩,.string ⟨x.desc.toArray⟩,.bool x.there,.int .i64 x.stack,.int .i64 x.locals,.slice x.code.A x.code.n x.code.c,.slice x.hs.A x.hs.n x.hs.c,.slice x.fs.A x.fs.n x.fs.c] 51);have hk1:=Bk.newAt w 51 #[.int .i64 x.access,.string ⟨x.name.toArray⟩,.string ⟨x.desc.toArray⟩,.bool x.there,.int .i64 x.stack,.int .i64 x.locals,.slice x.code.A x.code.n x.code.c,.slice x.hs.A x.hs.n x.hs.c,.slice x.fs.A x.fs.n x.fs.c] hg1;obtain⟨w1,hw1⟩:∃w1,w.alloc (.cells #[.int .i64 x.access,.string ⟨x.name.toArray⟩,.string ⟨x.desc.toArray⟩,.bool x.there,.int .i64 x.stack,.int .i64 x.locals,.slice x.code.A x.code.n x.code.c,.slice x.hs.A x.hs.n x.hs.c,.slice x.fs.A x.fs.n x.fs.c] 51)=w1:=⟨_,rfl⟩;rw[hw1]at hb1 hk1;obtain⟨g2,hg2⟩:∃g2,w1.heap.size=g2:=⟨_,rfl⟩;have hb2:=Y9z hb1 (Z00 _) (.cells #[.int .i64 y.access,.string ⟨y.name.toArray⟩,.string ⟨y.desc.toArray⟩,.bool y.there,.int .i64 y.stack,.int .i64 y.locals,.slice y.code.A y.code.n y.code.c,.slice y.hs.A y.hs.n y.hs.c,.slice y.fs.A y.fs.n y.fs.c] 51);have hk1b:=hk1.alloc (.cells #[.int .i64 y.access,.string ⟨y.name.toArray⟩,.string ⟨y.desc.toArray⟩,.bool y.there,.int .i64 y.stack,.int .i64 y.locals,.slice y.code.A y.code.n y.code.c,.slice y.hs.A y.hs.n y.hs.c,.slice y.fs.A y.fs.n y.fs.c] 51);have hk2:=Bk.newAt w1 51 #[.int .i64 y.access,.string ⟨y.name.toArray⟩,.string ⟨y.desc.toArray⟩,.bool y.there,.int .i64 y.stack,.int .i64 y.locals,.slice y.code.A y.code.n y.code.c,.slice y.hs.A y.hs.n y.hs.c,.slice y.fs.A y.fs.n y.fs.c] hg2;obtain⟨w2,hw2⟩:∃w2,w1.alloc (.cells #[.int .i64 y.access,.string ⟨y.name.toArray⟩,.string ⟨y.desc.toArray⟩,.bool y.there,.int .i64 y.stack,.int .i64 y.locals,.slice y.code.A y.code.n y.code.c,.slice y.hs.A y.hs.n y.hs.c,.slice y.fs.A y.fs.n y.fs.c] 51)=w2:=⟨_,rfl⟩;rw[hw2]at hb2 hk1b hk2;have HB:=bx hb2;have p0:w2.cell? ⟨g1,0,none⟩=some (.int .i64 x.access):=(hk1b.cell 0).trans rfl;have p1:w2.cell? ⟨g1,1,none⟩=some (.string ⟨x.name.toArray⟩):=(hk1b.cell 1).trans rfl;have p2:w2.cell? ⟨g1,2,none⟩=some (.string ⟨x.desc.toArray⟩):=(hk1b.cell 2).trans rfl;have p3:w2.cell? ⟨g1,3,none⟩=some (.bool x.there):=(hk1b.cell 3).trans rfl;have p4:w2.cell? ⟨g1,4,none⟩=some (.int .i64 x.stack):=(hk1b.cell 4).trans rfl;have p5:w2.cell? ⟨g1,5,none⟩=some (.int .i64 x.locals):=(hk1b.cell 5).trans rfl;have p6:w2.cell? ⟨g1,6,none⟩=some (.slice x.code.A x.code.n x.code.c):=(hk1b.cell 6).trans rfl;have p7:w2.cell? ⟨g1,7,none⟩=some (.slice x.hs.A x.hs.n x.hs.c):=(hk1b.cell 7).trans rfl;have p8:w2.cell? ⟨g1,8,none⟩=some (.slice x.fs.A x.fs.n x.fs.c):=(hk1b.cell 8).trans rfl;have q0:w2.cell? ⟨g2,0,none⟩=some (.int .i64 y.access):=(hk2.cell 0).trans rfl;have q1:w2.cell? ⟨g2,1,none⟩=some (.string ⟨y.name.toArray⟩):=(hk2.cell 1).trans rfl;have q2:w2.cell? ⟨g2,2,none⟩=some (.string ⟨y.desc.toArray⟩):=(hk2.cell 2).trans rfl;have q3:w2.cell? ⟨g2,3,none⟩=some (.bool y.there):=(hk2.cell 3).trans rfl;have q4:w2.cell? ⟨g2,4,none⟩=some (.int .i64 y.stack):=(hk2.cell 4).trans rfl;have q5:w2.cell? ⟨g2,5,none⟩=some (.int .i64 y.locals):=(hk2.cell 5).trans rfl;have q6:w2.cell? ⟨g2,6,none⟩=some (.slice y.code.A y.code.n y.code.c):=(hk2.cell 6).trans rfl;have q7:w2.cell? ⟨g2,7,none⟩=some (.slice y.hs.A y.hs.n y.hs.c):=(hk2.cell 7).trans rfl;have q8:w2.cell? ⟨g2,8,none⟩=some (.slice y.fs.A y.fs.n y.fs.c):=(hk2.cell 8).trans rfl;obtain⟨bc,hbc⟩:∃bc,decide (x.code.l=y.code.l)=bc:=⟨_,rfl⟩;obtain⟨bh,hbh⟩:∃bh,decide (x.hs.l=y.hs.l)=bh:=⟨_,rfl⟩;obtain⟨bf,hbf⟩:∃bf,decide (x.fs.l.map FrE.p=y.fs.l.map FrE.p)=bf:=⟨_,rfl⟩
 have Ws:Bx (∀nq,Calls Tryd.prog 27 #[.slice x.code.A x.code.n x.code.c,.slice y.code.A y.code.n y.code.c] (w2.drewN nq) fun e w'=>e = .returned (.bool bc)∧∃q,w'=w2.drewN q):=bx (fun nq=>by
  rw[←hbc];have a:=X9a hx.code hb2;have b:=X9a hy.code hb2
  exact(Y0x _ _ _ _ _ _ _ _ _ a.1 b.1 a.2.1 (a.2.2.drewN nq) (b.2.2.drewN nq)).mono (fun e w' h=>⟨h.1,by obtain⟨q,hq⟩:=h.2;exact⟨nq+q,by rw[hq];exact World.drewN_drewN _ _ _⟩⟩))
 have Nv:Bx (∀nq,Calls Tryd.prog 28 #[.slice x.hs.A x.hs.n x.hs.c,.slice y.hs.A y.hs.n y.hs.c] (w2.drewN nq) fun e w'=>e = .returned (.bool bh)∧∃q,w'=w2.drewN q):=bx (fun nq=>by
  rw[←hbh];have a:=Y8o hx.hs hb2;have b:=Y8o hy.hs hb2
  exact(Y0h _ _ _ _ _ _ _ _ _ a.1 b.1 a.2.1 (a.2.2.drewN nq) (b.2.2.drewN nq)).mono (fun e w' h=>⟨h.1,by obtain⟨q,hq⟩:=h.2;exact⟨nq+q,by rw[hq];exact World.drewN_drewN _ _ _⟩⟩))
 have Vc:Bx (∀nq,Calls Tryd.prog 29 #[.slice x.fs.A x.fs.n x.fs.c,.slice y.fs.A y.fs.n y.fs.c,.func (.func 30) #[] #[]] (w2.drewN nq) fun e w'=>e = .returned (.bool bf)∧Below w.heap.size w w'):=bx (fun nq=>by
  rw[←hbf];have a:=Y8o hx.fs hb2;have b:=Y8o hy.fs hb2;have hd:=below_drewN hb2 nq
  exact(X5s _ _ _ _ _ _ _ _ (w2.drewN nq) a.1 b.1 a.2.1 (a.2.2.drewN nq) (b.2.2.drewN nq) (fun f hf=>(hx.fr f hf).step (fun k hk=>hd.block k hk) (fun k hk=>Z07 hk hd.size)) (fun f hf=>(hy.fr f hf).step (fun k hk=>hd.block k hk) (fun k hk=>Z07 hk hd.size))).mono (fun e w' h=>⟨h.1,hd.trans (h.2.mono hd.size)⟩))
 have Xj:=bx hbc;have J6:=bx hbh;have J5:=bx hbf;clear hx hy hR hb1 hb2 hk1 hk1b hk2 hbc hbh hbf;by_cases e0:x.access=y.access
 ·rw[e0]at p0 hw1 ⊢
  by_cases e1:x.name=y.name
  ·rw[e1]at p1 hw1 ⊢
   by_cases e2:x.desc=y.desc
   ·rw[e2]at p2 hw1 ⊢
    by_cases e3:x.there=y.there
    ·rw[e3]at p3 hw1 ⊢
     by_cases e4:x.stack=y.stack
     ·rw[e4]at p4 hw1 ⊢
      by_cases e5:x.locals=y.locals
      ·rw[e5]at p5 hw1 ⊢
       have Zi:Bx (R=(bc&&(bh&&bf))):=bx (by rw[HR.out,←Xj.out,←J6.out,←J5.out,←Bool.decide_and,←Bool.decide_and];exact decide_eq_decide.2 ⟨fun h=>h.2.2.2.2.2.2,fun h=>⟨e0,e1,e2,e3,e4,e5,h⟩⟩);clear e0 e1 e2 e3 e4 e5
       go_enter Tryd.func26,Tryd.ntmps26
       cases bc with
       | false=>
        go_wp2_with (go_at_call 27;refine(Ws.out 0).mono ?_;rintro e w3 ⟨rfl,q,rfl⟩)
        go_ret;exact⟨by rw[Zi.out];rfl,below_drewN HB.out _⟩
       | true=>
        cases bh with
        | false=>
         go_wp2_with (first
          | (go_at_call 27;refine(Ws.out 0).mono ?_;rintro e w3 ⟨rfl,q,rfl⟩)
          | (go_at_call 28;refine(Nv.out q).mono ?_;rintro e w4 ⟨rfl,q4,rfl⟩))
         go_ret;exact⟨by rw[Zi.out];rfl,below_drewN HB.out _⟩
        | true=>
         go_wp2_with (first
          | (go_at_call 27;refine(Ws.out 0).mono ?_;rintro e w3 ⟨rfl,q,rfl⟩)
          | (go_at_call 28;refine(Nv.out q).mono ?_;rintro e w4 ⟨rfl,q4,rfl⟩)
          | (go_at_call 29;refine(Vc.out q4).mono ?_;rintro e w5 ⟨rfl,hb5⟩;have Za:=bx hb5;clear hb5))
         go_ret;exact⟨by rw[Zi.out];cases bf <;> rfl,Za.out⟩
      ·have hb:(x.locals==y.locals)=false:=by simpa using e5
       have Zi:Bx (R=false):=bx (by rw[HR.out];exact Z48 (fun h=>e5 h.2.2.2.2.2.1));clear e0 e1 e2 e3 e4 e5
       go_enter Tryd.func26,Tryd.ntmps26
       go_wp2;go_ret;exact⟨by rw[Zi.out];rfl,HB.out⟩
     ·have hb:(x.stack==y.stack)=false:=by simpa using e4
      have Zi:Bx (R=false):=bx (by rw[HR.out];exact Z48 (fun h=>e4 h.2.2.2.2.1));clear e0 e1 e2 e3 e4
      go_enter Tryd.func26,Tryd.ntmps26
      go_wp2;go_ret;exact⟨by rw[Zi.out];rfl,HB.out⟩
    ·have hb:(x.there==y.there)=false:=by simpa using e3
     have Zi:Bx (R=false):=bx (by rw[HR.out];exact Z48 (fun h=>e3 h.2.2.2.1));clear e0 e1 e2 e3
     go_enter Tryd.func26,Tryd.ntmps26
     go_wp2;go_ret;exact⟨by rw[Zi.out];rfl,HB.out⟩
   ·have hb:(x.desc==y.desc)=false:=by simpa using e2
    have Zi:Bx (R=false):=bx (by rw[HR.out];exact Z48 (fun h=>e2 h.2.2.1));clear e0 e1 e2
    go_enter Tryd.func26,Tryd.ntmps26
    go_wp2;go_ret;exact⟨by rw[Zi.out];rfl,HB.out⟩
  ·have hb:(x.name==y.name)=false:=by simpa using e1
   have Zi:Bx (R=false):=bx (by rw[HR.out];exact Z48 (fun h=>e1 h.2.1));clear e0 e1
   go_enter Tryd.func26,Tryd.ntmps26
   go_wp2;go_ret;exact⟨by rw[Zi.out];rfl,HB.out⟩
 ·have hb:(x.access==y.access)=false:=by simpa using e0
  have Zi:Bx (R=false):=bx (by rw[HR.out];exact Z48 (fun h=>e0 h.1));clear e0
  go_enter Tryd.func26,Tryd.ntmps26
  go_wp2;go_ret;exact⟨by rw[Zi.out];rfl,HB.out⟩
open Go.RowKit
set_option linter.unusedSimpArgs false
theorem X4t (A1 A2:Option Addr) (n1 c1 n2 c2:Nat) (L1 L2:List MtE) (w:World) (h1:L1.length=n1) (h2:L2.length=n2) (hb1:(n1:Int)≤9223372036854775807)
  (r1:RS mtC w w.heap.size A1 L1) (r2:RS mtC w w.heap.size A2 L2) (s1:∀x∈L1,MtX w (fun k=>k<w.heap.size) x) (s2:∀x∈L2,MtX w (fun k=>k<w.heap.size) x) :
  Calls Tryd.prog 25 #[.slice A1 n1 c1,.slice A2 n2 c2,.func (.func 26) #[] #[]] w fun e w'=>e = .returned (.bool (decide (L1.map MtE.p=L2.map MtE.p)))∧Below w.heap.size w w':=by
 have Wp:=bx h1;have Xl:=bx h2;have Xd:=bx r1;have Wx:=bx r2;have Sg:=bx s1;have Wf:=bx s2;clear h1 h2 r1 r2 s1 s2;by_cases he:n1=n2
 ·have he1:((n1:Int) != (n2:Int))=false:=by simp [he]
  have HE:=bx he;obtain⟨R,hR⟩:∃R,decide (L1.map MtE.p=L2.map MtE.p)=R:=⟨_,rfl⟩;rw[hR];have HR:=bx hR;have Xm:Bx ((L1.take 0).map MtE.p=(L2.take 0).map MtE.p):=bx rfl;have Wj:Bx (Below w.heap.size w w):=bx (Below.refl _ _);clear he hR
  go_enter Tryd.func25,Tryd.ntmps25
  go_wp2
  go_loopw [17] (fun i wr=>∃k:Nat,k≤n1∧i = .int .i64 (k:Int)∧Bx ((L1.take k).map MtE.p=(L2.take k).map MtE.p)∧Bx (Below w.heap.size w wr)) (fun i _=>n1-(intOf i).toNat)
  case atStart=>exact⟨0,by omega,rfl,Xm,Wj⟩
  case round=>
   clear Xm Wj;obtain⟨k,hk,rfl,HQ,HW⟩:=hrel;by_cases hk0:k<n1
   ·have hk1:k<n2:=by have:=HE.out;omega
    have hkI:(k:Int)<(n1:Int):=(by omega);have hkI2:(k:Int)<(n2:Int):=(by omega);obtain⟨ad,x,rfl,hlx,HX,pp0,pp1⟩:=(Xd.out.below HW.out (Z00 _)).at_ mtCels (k:=k) (by rw[Wp.out];exact hk0);have p0:=pp0 _ rfl;have p1:=pp1 0 _ rfl;have p2:=pp1 1 _ rfl;have p3:=pp1 2 _ rfl;have p4:=pp1 3 _ rfl;have p5:=pp1 4 _ rfl;have p6:=pp1 5 _ rfl;have p7:=pp1 6 _ rfl;have p8:=pp1 7 _ rfl;simp only[Z22,Nat.reduceAdd]at p1 p2 p3 p4 p5 p6 p7 p8;unfold strQ at p1 p2;unfold slV at p6;unfold Sq.v at p7 p8;clear pp0 pp1 hlx;obtain⟨g1,hg1⟩:∃g1,wr.heap.size=g1:=⟨_,rfl⟩;have hbw:=HW.out;have hb1':=Y9z (Below.refl wr.heap.size wr) (Z00 _) (.cells #[.int .i64 x.access,.string ⟨x.name.toArray⟩,.string ⟨x.desc.toArray⟩,.bool x.there,.int .i64 x.stack,.int .i64 x.locals,.slice x.code.A x.code.n x.code.c,.slice x.hs.A x.hs.n x.hs.c,.slice x.fs.A x.fs.n x.fs.c] 51);have hk1':=Bk.newAt wr 51 #[.int .i64 x.access,.string ⟨x.name.toArray⟩,.string ⟨x.desc.toArray⟩,.bool x.there,.int .i64 x.stack,.int .i64 x.locals,.slice x.code.A x.code.n x.code.c,.slice x.hs.A x.hs.n x.hs.c,.slice x.fs.A x.fs.n x.fs.c] hg1;obtain⟨w1,hw1⟩:∃w1,wr.alloc (.cells #[.int .i64 x.access,.string ⟨x.name.toArray⟩,.string ⟨x.desc.toArray⟩,.bool x.there,.int .i64 x.stack,.int .i64 x.locals,.slice x.code.A x.code.n x.code.c,.slice x.hs.A x.hs.n x.hs.c,.slice x.fs.A x.fs.n x.fs.c] 51)=w1:=⟨_,rfl⟩;rw[hw1]at hb1' hk1';have hbw1:=hbw.trans (hb1'.mono hbw.size);obtain⟨bd,y,rfl,hly,HY,qq0,qq1⟩:=(Wx.out.below hbw1 (Z00 _)).at_ mtCels (k:=k) (by rw[Xl.out];exact hk1);have q0:=qq0 _ rfl;have q1:=qq1 0 _ rfl;have q2:=qq1 1 _ rfl;have q3:=qq1 2 _ rfl;have q4:=qq1 3 _ rfl;have q5:=qq1 4 _ rfl;have q6:=qq1 5 _ rfl;have q7:=qq1 6 _ rfl;have q8:=qq1 7 _ rfl;simp only[Z22,Nat.reduceAdd]at q1 q2 q3 q4 q5 q6 q7 q8;unfold strQ at q1 q2;unfold slV at q6;unfold Sq.v at q7 q8;clear qq0 qq1 hly;obtain⟨g2,hg2⟩:∃g2,w1.heap.size=g2:=⟨_,rfl⟩;have hb2':=Y9z (Below.refl w1.heap.size w1) (Z00 _) (.cells #[.int .i64 y.access,.string ⟨y.name.toArray⟩,.string ⟨y.desc.toArray⟩,.bool y.there,.int .i64 y.stack,.int .i64 y.locals,.slice y.code.A y.code.n y.code.c,.slice y.hs.A y.hs.n y.hs.c,.slice y.fs.A y.fs.n y.fs.c] 51);have hk1b:=hk1'.alloc (.cells #[.int .i64 y.access,.string ⟨y.name.toArray⟩,.string ⟨y.desc.toArray⟩,.bool y.there,.int .i64 y.stack,.int .i64 y.locals,.slice y.code.A y.code.n y.code.c,.slice y.hs.A y.hs.n y.hs.c,.slice y.fs.A y.fs.n y.fs.c] 51);have hk2':=Bk.newAt w1 51 #[.int .i64 y.access,.string ⟨y.name.toArray⟩,.string ⟨y.desc.toArray⟩,.bool y.there,.int .i64 y.stack,.int .i64 y.locals,.slice y.code.A y.code.n y.code.c,.slice y.hs.A y.hs.n y.hs.c,.slice y.fs.A y.fs.n y.fs.c] hg2;obtain⟨w2,hw2⟩:∃w2,w1.alloc (.cells #[.int .i64 y.access,.string ⟨y.name.toArray⟩,.string ⟨y.desc.toArray⟩,.bool y.there,.int .i64 y.stack,.int .i64 y.locals,.slice y.code.A y.code.n y.code.c,.slice y.hs.A y.hs.n y.hs.c,.slice y.fs.A y.fs.n y.fs.c] 51)=w2:=⟨_,rfl⟩;rw[hw2]at hb2' hk1b hk2';have Yu:=bx (hbw1.trans (hb2'.mono hbw1.size));have a0:w2.cell? ⟨g1,0,none⟩=some (.int .i64 x.access):=(hk1b.cell 0).trans rfl;have a1:w2.cell? ⟨g1,1,none⟩=some (.string ⟨x.name.toArray⟩):=(hk1b.cell 1).trans rfl;have a2:w2.cell? ⟨g1,2,none⟩=some (.string ⟨x.desc.toArray⟩):=(hk1b.cell 2).trans rfl;have a3:w2.cell? ⟨g1,3,none⟩=some (.bool x.there):=(hk1b.cell 3).trans rfl;have a4:w2.cell? ⟨g1,4,none⟩=some (.int .i64 x.stack):=(hk1b.cell 4).trans rfl;have a5:w2.cell? ⟨g1,5,none⟩=some (.int .i64 x.locals):=(hk1b.cell 5).trans rfl;have a6:w2.cell? ⟨g1,6,none⟩=some (.slice x.code.A x.code.n x.code.c):=(hk1b.cell 6).trans rfl;have a7:w2.cell? ⟨g1,7,none⟩=some (.slice x.hs.A x.hs.n x.hs.c):=(hk1b.cell 7).trans rfl;have a8:w2.cell? ⟨g1,8,none⟩=some (.slice x.fs.A x.fs.n x.fs.c):=(hk1b.cell 8).trans rfl;have b0:w2.cell? ⟨g2,0,none⟩=some (.int .i64 y.access):=(hk2'.cell 0).trans rfl;have b1:w2.cell? ⟨g2,1,none⟩=some (.string ⟨y.name.toArray⟩):=(hk2'.cell 1).trans rfl;have b2:w2.cell? ⟨g2,2,none⟩=some (.string ⟨y.desc.toArray⟩):=(hk2'.cell 2).trans rfl;have b3:w2.cell? ⟨g2,3,none⟩=some (.bool y.there):=(hk2'.cell 3).trans rfl;have b4:w2.cell? ⟨g2,4,none⟩=some (.int .i64 y.stack):=(hk2'.cell 4).trans rfl;have b5:w2.cell? ⟨g2,5,none⟩=some (.int .i64 y.locals):=(hk2'.cell 5).trans rfl;have b6:w2.cell? ⟨g2,6,none⟩=some (.slice y.code.A y.code.n y.code.c):=(hk2'.cell 6).trans rfl;have b7:w2.cell? ⟨g2,7,none⟩=some (.slice y.hs.A y.hs.n y.hs.c):=(hk2'.cell 7).trans rfl;have b8:w2.cell? ⟨g2,8,none⟩=some (.slice y.fs.A y.fs.n y.fs.c):=(hk2'.cell 8).trans rfl;have hsx:=(Sg.out x (Z16 HX.out)).step (fun k hk=>Yu.out.block k hk) (fun k hk=>Z07 hk Yu.out.size);have hsy:=(Wf.out y (Z16 HY.out)).step (fun k hk=>Yu.out.block k hk) (fun k hk=>Z07 hk Yu.out.size);have hsm:=X7t x y w2 hsx hsy;obtain⟨q,hq⟩:∃q,decide (x.p=y.p)=q:=⟨_,rfl⟩;rw[hq]at hsm;have Pg:=bx hsm;have X5:=bx hq;clear hbw hb1' hk1' hbw1 hb2' hk1b hk2' hsx hsy hsm hq;cases q with
    | true=>
     have Xq:=bx (Y6r HQ.out HX.out HY.out (Z49 X5.out));clear HQ;go_wp2_with (go_at_call 26;refine Pg.out.mono ?_;rintro e w3 ⟨rfl,hb3⟩;have Xv:=bx (Yu.out.trans (hb3.mono Yu.out.size));clear hb3)
     go_roundw
     case rel=>exact⟨k+1,by omega,by go_num,Xq,Xv⟩
     case measure=>simp [intOf];omega
    | false=>
     have HN:Bx (R=false):=bx (by rw[←HR.out];exact Z48 (Y7w HX.out HY.out (of_decide_eq_false X5.out)));clear HQ;go_wp2_with (go_at_call 26;refine Pg.out.mono ?_;rintro e w3 ⟨rfl,hb3⟩;have Xv:=bx (Yu.out.trans (hb3.mono Yu.out.size));clear hb3)
     go_ret;exact⟨by rw[HN.out];rfl,Xv.out⟩
   ·obtain rfl:n1=k:=by omega
    have hkI:¬(n1:Int)<(n1:Int):=(by omega);have HN:Bx (R=true):=bx (by have h9:=HQ.out;rw[Z15 (by rw[Wp.out];exact Z00 _),Z15 (by rw[Xl.out,←HE.out];exact Z00 _)]at h9;rw[←HR.out];exact Z47 h9);clear HQ;go_wp2;go_ret;exact⟨by rw[HN.out];rfl,HW.out⟩
 ·have he1:((n1:Int) != (n2:Int))=true:=by simp;omega
  have hne:decide (L1.map MtE.p=L2.map MtE.p)=false:=Z48 (fun e=>he (by have:=congrArg List.length e;rw[Z17,Z17,Wp.out,Xl.out]at this;exact this));rw[hne];clear he hne
  go_enter Tryd.func25,Tryd.ntmps25
  go_wp2;go_ret;exact⟨rfl,Below.refl _ _⟩
open Go.RowKit
set_option linter.unusedSimpArgs false
theorem W8v {x y:ClE}:x.p=y.p↔x.access=y.access∧x.name=y.name∧x.super=y.super∧x.ifs.l=y.ifs.l∧x.fls.l=y.fls.l∧x.mts.l.map MtE.p=y.mts.l.map MtE.p:=by
 unfold ClE.p
 simp
theorem X6t (x y:ClE) (w:World) (hx:ClX w (fun k=>k<w.heap.size) x) (hy:ClX w (fun k=>k<w.heap.size) y) :
  Calls Tryd.prog 14 #[.agg (clA x),.agg (clA y)] w fun e w'=>e = .returned (.bool (decide (x.p=y.p)))∧Below w.heap.size w w':=by
 obtain⟨R,hR⟩:∃R,decide (x.p=y.p)=R:=⟨_,rfl⟩;rw[hR];have HR:Bx (R=decide (x.access=y.access∧x.name=y.name∧x.super=y.super∧x.ifs.l=y.ifs.l∧x.fls.l=y.fls.l∧x.mts.l.map MtE.p=y.mts.l.map MtE.p)):=bx (by rw[←hR];exact decide_eq_decide.2 W8v);unfold clA strQ Sq.v;obtain⟨g1,hg1⟩:∃g1,w.heap.size=g1:=⟨_,rfl⟩;have hb1:=Y9z (Below.refl w.heap.size w) (Z00 _) (.cells #[.int .i64 x.access,.string ⟨x.name.toArray⟩,.string ⟨x.super.toArray⟩,.slice x.ifs.A x.ifs.n x.ifs.c,.slice x.fls.A x.fls.n x.fls.c,.slice x.mts.A x.mts.n x.mts.c,.slice x.pool.A x.pool.n x.pool.c] 27);have hk1:=Bk.newAt w 27 #[.int .i64 x.access,.string ⟨x.name.toArray⟩,.string ⟨x.super.toArray⟩,.slice x.ifs.A x.ifs.n x.ifs.c,.slice x.fls.A x.fls.n x.fls.c,.slice x.mts.A x.mts.n x.mts.c,.slice x.pool.A x.pool.n x.pool.c] hg1;obtain⟨w1,hw1⟩:∃w1,w.alloc (.cells #[.int .i64 x.access,.string ⟨x.name.toArray⟩,.string ⟨x.super.toArray⟩,.slice x.ifs.A x.ifs.n x.ifs.c,.slice x.fls.A x.fls.n x.fls.c,.slice x.mts.A x.mts.n x.mts.c,.slice x.pool.A x.pool.n x.pool.c] 27)=w1:=⟨_,rfl⟩;rw[hw1]at hb1 hk1;obtain⟨g2,hg2⟩:∃g2,w1.heap.size=g2:=⟨_,rfl⟩;have hb2:=Y9z hb1 (Z00 _) (.cells #[.int .i64 y.access,.string ⟨y.name.toArray⟩,.string ⟨y.super.toArray⟩,.slice y.ifs.A y.ifs.n y.ifs.c,.slice y.fls.A y.fls.n y.fls.c,.slice y.mts.A y.mts.n y.mts.c,.slice y.pool.A y.pool.n y.pool.c] 27);have hk1b:=hk1.alloc (.cells #[.int .i64 y.access,.string ⟨y.name.toArray⟩,.string ⟨y.super.toArray⟩,.slice y.ifs.A y.ifs.n y.ifs.c,.slice y.fls.A y.fls.n y.fls.c,.slice y.mts.A y.mts.n y.mts.c,.slice y.pool.A y.pool.n y.pool.c] 27);have hk2:=Bk.newAt w1 27 #[.int .i64 y.access,.string ⟨y.name.toArray⟩,.string ⟨y.super.toArray⟩,.slice y.ifs.A y.ifs.n y.ifs.c,.slice y.fls.A y.fls.n y.fls.c,.slice y.mts.A y.mts.n y.mts.c,.slice y.pool.A y.pool.n y.pool.c] hg2;obtain⟨w2,hw2⟩:∃w2,w1.alloc (.cells #[.int .i64 y.access,.string ⟨y.name.toArray⟩,.string ⟨y.super.toArray⟩,.slice y.ifs.A y.ifs.n y.ifs.c,.slice y.fls.A y.fls.n y.fls.c,.slice y.mts.A y.mts.n y.mts.c,.slice y.pool.A y.pool.n y.pool.c] 27)=w2:=⟨_,rfl⟩;rw[hw2]at hb2 hk1b hk2;have HB:=bx hb2;have p0:w2.cell? ⟨g1,0,none⟩=some (.int .i64 x.access):=(hk1b.cell 0).trans rfl;have p1:w2.cell? ⟨g1,1,none⟩=some (.string ⟨x.name.toArray⟩):=(hk1b.cell 1).trans rfl;have p2:w2.cell? ⟨g1,2,none⟩=some (.string ⟨x.super.toArray⟩):=(hk1b.cell 2).trans rfl;have p3:w2.cell? ⟨g1,3,none⟩=some (.slice x.ifs.A x.ifs.n x.ifs.c):=(hk1b.cell 3).trans rfl;have p4:w2.cell? ⟨g1,4,none⟩=some (.slice x.fls.A x.fls.n x.fls.c):=(hk1b.cell 4).trans rfl;have p5:w2.cell? ⟨g1,5,none⟩=some (.slice x.mts.A x.mts.n x.mts.c):=(hk1b.cell 5).trans rfl;have p6:w2.cell? ⟨g1,6,none⟩=some (.slice x.pool.A x.pool.n x.pool.c):=(hk1b.cell 6).trans rfl;have q0:w2.cell? ⟨g2,0,none⟩=some (.int .i64 y.access):=(hk2.cell 0).trans rfl;have q1:w2.cell? ⟨g2,1,none⟩=some (.string ⟨y.name.toArray⟩):=(hk2.cell 1).trans rfl;have q2:w2.cell? ⟨g2,2,none⟩=some (.string ⟨y.super.toArray⟩):=(hk2.cell 2).trans rfl;have q3:w2.cell? ⟨g2,3,none⟩=some (.slice y.ifs.A y.ifs.n y.ifs.c):=(hk2.cell 3).trans rfl;have q4:w2.cell? ⟨g2,4,none⟩=some (.slice y.fls.A y.fls.n y.fls.c):=(hk2.cell 4).trans rfl;have q5:w2.cell? ⟨g2,5,none⟩=some (.slice y.mts.A y.mts.n y.mts.c):=(hk2.cell 5).trans rfl;have q6:w2.cell? ⟨g2,6,none⟩=some (.slice y.pool.A y.pool.n y.pool.c):=(hk2.cell 6).trans rfl;obtain⟨bc,hbc⟩:∃bc,decide (x.ifs.l=y.ifs.l)=bc:=⟨_,rfl⟩;obtain⟨bh,hbh⟩:∃bh,decide (x.fls.l=y.fls.l)=bh:=⟨_,rfl⟩;obtain⟨bf,hbf⟩:∃bf,decide (x.mts.l.map MtE.p=y.mts.l.map MtE.p)=bf:=⟨_,rfl⟩
 have Ws:Bx (∀nq,Calls Tryd.prog 23 #[.slice x.ifs.A x.ifs.n x.ifs.c,.slice y.ifs.A y.ifs.n y.ifs.c] (w2.drewN nq) fun e w'=>e = .returned (.bool bc)∧∃q,w'=w2.drewN q):=bx (fun nq=>by
  rw[←hbc];have a:=Y8o hx.ifs hb2;have b:=Y8o hy.ifs hb2
  exact(Y0q _ _ _ _ _ _ _ _ _ a.1 b.1 a.2.1 ((X6h a.2.2).drewN nq) ((X6h b.2.2).drewN nq)).mono (fun e w' h=>⟨h.1,by obtain⟨q,hq⟩:=h.2;exact⟨nq+q,by rw[hq];exact World.drewN_drewN _ _ _⟩⟩))
 have Nv:Bx (∀nq,Calls Tryd.prog 24 #[.slice x.fls.A x.fls.n x.fls.c,.slice y.fls.A y.fls.n y.fls.c] (w2.drewN nq) fun e w'=>e = .returned (.bool bh)∧∃q,w'=w2.drewN q):=bx (fun nq=>by
  rw[←hbh];have a:=Y8o hx.fls hb2;have b:=Y8o hy.fls hb2
  exact(Y0g _ _ _ _ _ _ _ _ _ a.1 b.1 a.2.1 (a.2.2.drewN nq) (b.2.2.drewN nq)).mono (fun e w' h=>⟨h.1,by obtain⟨q,hq⟩:=h.2;exact⟨nq+q,by rw[hq];exact World.drewN_drewN _ _ _⟩⟩))
 have Vc:Bx (∀nq,Calls Tryd.prog 25 #[.slice x.mts.A x.mts.n x.mts.c,.slice y.mts.A y.mts.n y.mts.c,.func (.func 26) #[] #[]] (w2.drewN nq) fun e w'=>e = .returned (.bool bf)∧Below w.heap.size w w'):=bx (fun nq=>by
  rw[←hbf];have a:=Y8o hx.mts hb2;have b:=Y8o hy.mts hb2;have hd:=below_drewN hb2 nq
  exact(X4t _ _ _ _ _ _ _ _ (w2.drewN nq) a.1 b.1 a.2.1 (a.2.2.drewN nq) (b.2.2.drewN nq) (fun f hf=>(hx.mt f hf).step (fun k hk=>hd.block k hk) (fun k hk=>Z07 hk hd.size)) (fun f hf=>(hy.mt f hf).step (fun k hk=>hd.block k hk) (fun k hk=>Z07 hk hd.size))).mono (fun e w' h=>⟨h.1,hd.trans (h.2.mono hd.size)⟩))
 have Xj:=bx hbc;have J6:=bx hbh;have J5:=bx hbf;clear hx hy hR hb1 hb2 hk1 hk1b hk2 hbc hbh hbf;by_cases e0:x.access=y.access
 ·rw[e0]at p0 hw1 ⊢
  by_cases e1:x.name=y.name
  ·rw[e1]at p1 hw1 ⊢
   by_cases e2:x.super=y.super
   ·rw[e2]at p2 hw1 ⊢
    have Zi:Bx (R=(bc&&(bh&&bf))):=bx (by rw[HR.out,←Xj.out,←J6.out,←J5.out,←Bool.decide_and,←Bool.decide_and];exact decide_eq_decide.2 ⟨fun h=>h.2.2.2,fun h=>⟨e0,e1,e2,h⟩⟩);clear e0 e1 e2
    go_enter Tryd.func14,Tryd.ntmps14
    cases bc with
    | false=>
     go_wp2_with (go_at_call 23;refine(Ws.out 0).mono ?_;rintro e w3 ⟨rfl,q,rfl⟩)
     go_ret;exact⟨by rw[Zi.out];rfl,below_drewN HB.out _⟩
    | true=>
     cases bh with
     | false=>
      go_wp2_with (first
       | (go_at_call 23;refine(Ws.out 0).mono ?_;rintro e w3 ⟨rfl,q,rfl⟩)
       | (go_at_call 24;refine(Nv.out q).mono ?_;rintro e w4 ⟨rfl,q4,rfl⟩))
      go_ret;exact⟨by rw[Zi.out];rfl,below_drewN HB.out _⟩
     | true=>
      go_wp2_with (first
       | (go_at_call 23;refine(Ws.out 0).mono ?_;rintro e w3 ⟨rfl,q,rfl⟩)
       | (go_at_call 24;refine(Nv.out q).mono ?_;rintro e w4 ⟨rfl,q4,rfl⟩)
       | (go_at_call 25;refine(Vc.out q4).mono ?_;rintro e w5 ⟨rfl,hb5⟩;have Za:=bx hb5;clear hb5))
      go_ret;exact⟨by rw[Zi.out];cases bf <;> rfl,Za.out⟩
   ·have hb:(x.super==y.super)=false:=by simpa using e2
    have hb2:(x.super != y.super)=true:=(by simpa using e2);have hb3:(!x.super==y.super)=true:=(by simpa using e2);have Zi:Bx (R=false):=bx (by rw[HR.out];exact Z48 (fun h=>e2 h.2.2.1));clear e0 e1 e2
    go_enter Tryd.func14,Tryd.ntmps14
    go_wp2;go_ret;exact⟨by rw[Zi.out];rfl,HB.out⟩
  ·have hb:(x.name==y.name)=false:=by simpa using e1
   have hb2:(x.name != y.name)=true:=(by simpa using e1);have hb3:(!x.name==y.name)=true:=(by simpa using e1);have Zi:Bx (R=false):=bx (by rw[HR.out];exact Z48 (fun h=>e1 h.2.1));clear e0 e1
   go_enter Tryd.func14,Tryd.ntmps14
   go_wp2;go_ret;exact⟨by rw[Zi.out];rfl,HB.out⟩
 ·have hb:(x.access==y.access)=false:=by simpa using e0
  have hb2:(x.access != y.access)=true:=(by simpa using e0);have hb3:(!x.access==y.access)=true:=(by simpa using e0);have Zi:Bx (R=false):=bx (by rw[HR.out];exact Z48 (fun h=>e0 h.1));clear e0
  go_enter Tryd.func14,Tryd.ntmps14
  go_wp2;go_ret;exact⟨by rw[Zi.out];rfl,HB.out⟩
open Go.RowKit
set_option linter.unusedSimpArgs false
theorem Y5g (A1 A2:Option Addr) (n1 c1 n2 c2:Nat) (L1 L2:List Vt) (w:World) (h1:L1.length=n1) (h2:L2.length=n2) (hb1:(n1:Int)≤9223372036854775807)
  (r1:RS vtC w w.heap.size A1 L1) (r2:RS vtC w w.heap.size A2 L2) :
  Calls Tryd.prog 44 #[.slice A1 n1 c1,.slice A2 n2 c2] w fun e w'=>e = .returned (.bool (decide (L1=L2)))∧∃q,w'=w.drewN q:=by
 have Wp:=bx h1;have Xl:=bx h2;have Xd:=bx r1;have Wx:=bx r2;clear h1 h2 r1 r2;by_cases he:n1=n2
 ·have he1:((n1:Int) != (n2:Int))=false:=by simp [he]
  have HE:=bx he;obtain⟨R,hR⟩:∃R,decide (L1=L2)=R:=⟨_,rfl⟩;rw[hR];have HR:=bx hR;have Xm:Bx (L1.take 0=L2.take 0):=bx rfl;have Wj:Bx (∃m,w=w.drewN m):=bx ⟨0,rfl⟩;clear he hR
  go_enter Tryd.func44,Tryd.ntmps44
  go_wp2
  go_loopw [5] (fun i wr=>∃k:Nat,k≤n1∧i = .int .i64 (k:Int)∧Bx (L1.take k=L2.take k)∧Bx (∃m,wr=w.drewN m)) (fun i _=>n1-(intOf i).toNat)
  case atStart=>exact⟨0,by omega,rfl,Xm,Wj⟩
  case round=>
   clear Xm Wj;obtain⟨k,hk,rfl,HQ,HW⟩:=hrel;by_cases hk0:k<n1
   ·have hk1:k<n2:=by have:=HE.out;omega
    have hkI:(k:Int)<(n1:Int):=(by omega);have hkI2:(k:Int)<(n2:Int):=(by omega);have hRR:RS vtC wr wr.heap.size A1 L1∧RS vtC wr wr.heap.size A2 L2:=by obtain⟨m,e⟩:=HW.out;rw[e];exact⟨Xd.out.drewN m,Wx.out.drewN m⟩
    obtain⟨ad,x,rfl,hl1,HX,pp0,pp1⟩:=hRR.1.at_ vtCels (k:=k) (by rw[Wp.out];exact hk0);obtain⟨bd,y,rfl,hl2,HY,qq0,qq1⟩:=hRR.2.at_ vtCels (k:=k) (by rw[Xl.out];exact hk1);have p0:=pp0 _ rfl;have p1:=pp1 0 _ rfl;have p2:=pp1 1 _ rfl;have q0:=qq0 _ rfl;have q1:=qq1 0 _ rfl;have q2:=qq1 1 _ rfl;simp only[Z22,Nat.reduceAdd]at p1 p2 q1 q2;unfold strQ at p1 q1;clear hRR pp0 pp1 qq0 qq1 hl1 hl2;by_cases he:x=y
    ·have Xq:=bx (Y8n HQ.out HX.out HY.out he)
     subst he;clear HQ;go_wp2;go_quiet (fail)
     have Yk:Bx (∀nq,∃m,wr.drewN nq=w.drewN m):=bx (fun nq=>by obtain⟨m,e⟩:=HW.out;rw[e];exact⟨m+nq,World.drewN_drewN _ _ _⟩);go_wp2;go_roundw
     case rel=>exact⟨k+1,by omega,by go_num,Xq,bx (Yk.out _)⟩
     case measure=>simp [intOf];omega
    ·have Wy:=bx he
     have HN:Bx (R=false):=bx (by rw[←HR.out];exact Z48 (Y8k HX.out HY.out he));clear HQ he;by_cases e0:x.kind=y.kind
     ·rw[e0]at p0
      by_cases e1:x.name=y.name
      ·rw[e1]at p1
       have hlast:¬x.at_=y.at_:=fun e=>Wy.out (W9l e0 e1 e);clear e0 e1;go_wp2;go_quiet (fail)
       have Yk:Bx (∀nq,∃m,wr.drewN nq=w.drewN m):=bx (fun nq=>by obtain⟨m,e⟩:=HW.out;rw[e];exact⟨m+nq,World.drewN_drewN _ _ _⟩);go_wp2;go_ret;exact⟨by rw[HN.out];rfl,Yk.out _⟩
      ·have en:=e1
       go_wp2;go_quiet (fail)
       have Yk:Bx (∀nq,∃m,wr.drewN nq=w.drewN m):=bx (fun nq=>by obtain⟨m,e⟩:=HW.out;rw[e];exact⟨m+nq,World.drewN_drewN _ _ _⟩);go_wp2;go_ret;exact⟨by rw[HN.out];rfl,Yk.out _⟩
     ·have en:=e0
      go_wp2;go_quiet (fail)
      have Yk:Bx (∀nq,∃m,wr.drewN nq=w.drewN m):=bx (fun nq=>by obtain⟨m,e⟩:=HW.out;rw[e];exact⟨m+nq,World.drewN_drewN _ _ _⟩);go_wp2;go_ret;exact⟨by rw[HN.out];rfl,Yk.out _⟩
   ·obtain rfl:n1=k:=by omega
    have hkI:¬(n1:Int)<(n1:Int):=(by omega);have HN:Bx (R=true):=bx (by have h9:=HQ.out;rw[Z15 (by rw[Wp.out];exact Z00 _),Z15 (by rw[Xl.out,←HE.out];exact Z00 _)]at h9;rw[←HR.out];exact Z47 h9);clear HQ;go_wp2;go_ret;exact⟨by rw[HN.out];rfl,HW.out⟩
 ·have he1:((n1:Int) != (n2:Int))=true:=by simp;omega
  have hne:decide (L1=L2)=false:=Z48 (fun e=>he (by have:=congrArg List.length e;rw[Wp.out,Xl.out]at this;exact this));rw[hne];clear he hne
  go_enter Tryd.func44,Tryd.ntmps44
  go_wp2;go_ret;exact⟨rfl,0,rfl⟩
end Go.Proofs.YtpmfiegfbmamiaaDoor
