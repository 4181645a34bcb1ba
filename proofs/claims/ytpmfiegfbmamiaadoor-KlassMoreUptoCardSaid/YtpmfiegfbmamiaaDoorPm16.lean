/- Contract: image.Parse: rows that are read, and the class file they make. -/
import Derived.Test.YtpmfiegfbmamiaaDoorPm6
import Derived.Test.YtpmfiegfbmamiaaDoorPm5
import Derived.Test.YtpmfiegfbmamiaaDoorPm15
import Derived.Test.YtpmfiegfbmamiaaDoorPm3
import Derived.Test.YtpmfiegfbmamiaaDoorPm7
namespace Go.Proofs.YtpmfiegfbmamiaaDoor
open Go.RowKit
structure RImX (w:World) (X:Nat→Prop) (x:ImE):Prop where
  pool:Rx w X x.pA (x.pool.flatMap cstC)
  pl:x.pool.length=x.pn∧x.pn≤x.pc∧(x.pc:Int)≤9223372036854775807
  ifs:Rx w X x.iA (x.ifs.map iV)
  il:x.ifs.length=x.i_n∧x.i_n≤x.ic∧(x.ic:Int)≤9223372036854775807
  fs:Rx w X x.fA (x.fs.flatMap memC)∧∀y∈x.fs,MmX w X y
  fl:x.fs.length=x.fn∧x.fn≤x.fc∧(x.fc:Int)≤9223372036854775807
  ms:Rx w X x.mA (x.ms.flatMap memC)∧∀y∈x.ms,MmX w X y
  ml:x.ms.length=x.mn∧x.mn≤x.mc∧(x.mc:Int)≤9223372036854775807
  as_:RAX w X x.aA x.as_
  al:x.as_.length=x.an∧x.an≤x.ac∧(x.ac:Int)≤9223372036854775807
section
variable {w w':World} {X Y:Nat→Prop} {x:ImE} {B:Nat}
theorem RImX.step (h:RImX w X x) (hs:∀k,X k→w'.heap[k]? = w.heap[k]?) (hY:∀k,X k→Y k):RImX w' Y x:=
  ⟨h.pool.step hs hY,h.pl,h.ifs.step hs hY,h.il,⟨h.fs.1.step hs hY,fun y hy=>(h.fs.2 y hy).step hs hY⟩,h.fl,⟨h.ms.1.step hs hY,fun y hy=>(h.ms.2 y hy).step hs hY⟩,h.ml,h.as_.step hs hY,h.al⟩
theorem Rx.rd {A:Option Addr} {xs:List Value} (h:Rx w X A xs) (hX:∀k,X k→k<B):Rd w B A xs:=fun hn=>by
  obtain⟨ad,e,hx,hc⟩:=h hn;exact⟨ad,e,hX _ hx,hc⟩
theorem RImX.rim (h:RImX w X x) (hX:∀k,X k→k<B):RIm w B x:=
  ⟨h.pool.rd hX,h.pl,h.ifs.rd hX,h.il,⟨h.fs.1.rd hX,fun y hy=>(h.fs.2 y hy).mmB hX⟩,h.fl,⟨h.ms.1.rd hX,fun y hy=>(h.ms.2 y hy).mmB hX⟩,h.ml,h.as_.ra hX,h.al⟩
theorem Rx.none_:Rx w X none []:=fun h=>absurd rfl h
end
def Btw (gm n k:Nat):Prop:=gm<k∧k<n
theorem W9h {w:World} {B gm sz n c:Nat} {e:TypeId} {A:Option Addr} {k:Nat} {xs:List Value} (h:w.ownsRow B e sz (.slice A n c) k xs) (hB:gm<B) (h0:k=0→xs=[]):Rx w (Btw gm w.heap.size) A xs∧k=n∧n≤c∧(c:Int)≤9223372036854775807:=by
  rcases h.2 with⟨e1,h1⟩ | ⟨g,cap,cur,e1,hb,hh,hc,hm,r⟩
  · injection e1 with e1 e2 e3
    subst e1;subst e2;subst e3;refine⟨fun hn=>absurd (h0 h1) hn,h1,Z00 _,by omega⟩
  · have hlt:=World.ownsRow.lt h g (by rw[e1];rfl)
    injection e1 with e1 e2 e3
    subst e1;subst e2;subst e3;have hr:=Rd.own h;refine⟨fun hn=>?_,rfl,hc,by unfold maxLen at hm;omega⟩;obtain⟨ad,e2,hx,hc2⟩:=hr hn;injection e2 with e2
    subst e2;exact⟨_,rfl,⟨by have:=hlt.1;show gm<g;omega,hx⟩,hc2⟩
theorem OwS.low {α:Type} {fC:α→List Value} {sz:Nat} {w:World} {base base':Nat} {e:TypeId} {v:Value} {l:List α} (h:OwS fC sz w base e v l) (hB:base'≤base):OwS fC sz w base' e v l:=by
  refine⟨h.1,?_⟩;rcases h.2 with h0 | ⟨g,cap,cur,hv,hb,r⟩
  · exact .inl h0
  · exact .inr ⟨g,cap,cur,hv,Z08 hB hb,r⟩
def poolM (gm k:Nat) (w:World):Nat:=match w.cell? ⟨gm,2,none⟩ with
  | some (.slice _ n _)=>k-n
  | _=>0
theorem Y3p {gm k n c:Nat} {A:Option Addr} {w:World} (h:w.cell? ⟨gm,2,none⟩=some (.slice A n c)):poolM gm k w=k-n:=by unfold poolM;rw[h]
section
variable {w:World} {B gm n c:Nat} {e:TypeId} {A:Option Addr}
theorem OwS.rx {α:Type} {fC:α→List Value} {sz:Nat} {l:List α} (h:OwS fC sz w B e (.slice A n c) l) (hB:gm<B):Rx w (Btw gm w.heap.size) A (l.flatMap fC)∧l.length=n∧n≤c∧(c:Int)≤9223372036854775807:=
  W9h h hB (fun h0=>by rw[Z36 h0];rfl)
theorem OwL.rx {α:Type} {f:α→Value} {l:List α} (h:OwL f w B e (.slice A n c) l) (hB:gm<B):Rx w (Btw gm w.heap.size) A (l.map f)∧l.length=n∧n≤c∧(c:Int)≤9223372036854775807:=
  W9h h hB (fun h0=>by rw[Z36 h0];rfl)
theorem X3u {v:Value} (hB:gm<B):∀k,Bel B w v k→Btw gm w.heap.size k:=fun _ hk=>⟨Z07 hB hk.1,hk.2.1⟩
theorem W9f {L:List MmE} (ho:OwS memC 4 w B e (.slice A n c) L) (hs:SubsM B w (.slice A n c) L) (hB:gm<B):(Rx w (Btw gm w.heap.size) A (L.flatMap memC)∧∀y∈L,MmX w (Btw gm w.heap.size) y)∧L.length=n∧n≤c∧(c:Int)≤9223372036854775807:=
  ⟨⟨(ho.rx hB).1,fun y hy=>(hs y hy).step (fun _ _=>rfl) (X3u hB)⟩,(ho.rx hB).2⟩
theorem W5s {L:List AtE} (ho:OwS attC 2 w B e (.slice A n c) L) (hs:SubsA B w (.slice A n c) L) (hB:gm<B):RAX w (Btw gm w.heap.size) A L∧L.length=n∧n≤c∧(c:Int)≤9223372036854775807:=
  ⟨⟨(ho.rx hB).1,fun y hy=>(hs y hy).step (fun _ _=>rfl) (X3u hB)⟩,(ho.rx hB).2⟩
end
structure PaR (w wx:World) (b:List UInt8) (gq gs gr gm:Nat) (cs:Array Value) (s:Rz Nat):Prop where
  bel:Below w.heap.size w wx
  zr:Bk wx gq 34 imZ
  im:Bk wx gm 34 cs
  src:Src wx gs gr b s
  lo:w.heap.size≤gq∧w.heap.size≤gs∧w.heap.size≤gr∧w.heap.size≤gm
  ne:gq≠gs∧gq≠gr∧gm≠gs∧gm≠gr∧gq≠gm
  hi:gs<gm∧gr<gm∧gq<gm
section
variable {w wx w':World} {b:List UInt8} {gq gs gr gm n:Nat} {cs:Array Value} {s s':Rz Nat}
theorem W9o {S:Nat→Prop} {B:Nat} (h:Below B w wx) (c:Ch wx w' S) (hS:∀k,S k→B≤k) (hB:B≤wx.heap.size):Below B w w':=
  h.trans ⟨c.os,c.tape,c.output,c.size,fun k hk=>c.same k (Z07 hk hB) (fun hf=>by have:=hS k hf;omega)⟩
theorem PaR.z (h:PaR w wx b gq gs gr gm cs s):w.heap.size≤wx.heap.size:=h.bel.size
theorem PaR.next (h:PaR w wx b gq gs gr gm cs s) (hs:Src w' gs gr b s') (c:Ch wx w' (Two gs gr)):PaR w w' b gq gs gr gm cs s':=
  ⟨W9o h.bel c (fun k hk=>by rcases hk with e | e <;> (rw[e];first | exact h.lo.2.1 | exact h.lo.2.2.1)) h.z,
   h.zr.ch c (fun hk=>by rcases hk with e | e;exact h.ne.1 e;exact h.ne.2.1 e),
   h.im.ch c (fun hk=>by rcases hk with e | e;exact h.ne.2.2.1 e;exact h.ne.2.2.2.1 e),hs,h.lo,h.ne,h.hi⟩
theorem PaR.below (h:PaR w wx b gq gs gr gm cs s) (hb:Below wx.heap.size wx w'):PaR w w' b gq gs gr gm cs s:=
  ⟨h.bel.trans (hb.mono h.z),h.zr.below hb h.zr.lt,h.im.below hb h.im.lt,h.src.below hb,h.lo,h.ne,h.hi⟩
theorem PaR.over {B:Nat} (h:PaR w wx b gq gs gr gm cs s) (hb:Below B wx w') (hB:gm<B):PaR w w' b gq gs gr gm cs s:=
  ⟨h.bel.trans (hb.mono (by have:=h.lo.2.2.2;omega)),h.zr.below hb (by have:=h.hi.2.2;omega),h.im.below hb hB,h.src.low hb (by have:=h.hi.1;omega) (by have:=h.hi.2.1;omega),h.lo,h.ne,h.hi⟩
theorem PaR.set (h:PaR w wx b gq gs gr gm cs s) (i:Nat) (u:Value):PaR w (wx.setCell ⟨gm,i,none⟩ u) b gq gs gr gm (cs.setIfInBounds i u) s:=
  ⟨h.bel.setCell h.lo.2.2.2 u,h.zr.far h.ne.2.2.2.2 u,h.im.set i u,h.src.low ((Below.refl gm wx).setCell (Z00 _) u) h.hi.1 h.hi.2.1,h.lo,h.ne,h.hi⟩
theorem PaR.two (h:PaR w wx b gq gs gr gm cs s) (hB:gm<n):∀k,Two gs gr k→k<n:=fun k hk=>by rcases hk with e | e <;> (rw[e];have:=h.hi;omega)
end
structure Pa0 (w wx:World) (b:List UInt8) (gq gs gr:Nat) (s:Rz Nat):Prop where
  bel:Below w.heap.size w wx
  zr:Bk wx gq 34 imZ
  src:Src wx gs gr b s
  lo:w.heap.size≤gq∧w.heap.size≤gs∧w.heap.size≤gr
  ne:gq≠gs∧gq≠gr
theorem Pa0.next {w wx w':World} {b:List UInt8} {gq gs gr:Nat} {s s':Rz Nat} (h:Pa0 w wx b gq gs gr s) (hs:Src w' gs gr b s') (c:Ch wx w' (Two gs gr)):Pa0 w w' b gq gs gr s':=
  ⟨W9o h.bel c (fun k hk=>by rcases hk with e | e <;> (rw[e];first | exact h.lo.2.1 | exact h.lo.2.2)) h.bel.size,
   h.zr.ch c (fun hk=>by rcases hk with e | e;exact h.ne.1 e;exact h.ne.2 e),hs,h.lo,h.ne⟩
theorem Pa0.make {w wx:World} {b:List UInt8} {gq gs gr:Nat} {s:Rz Nat} (h:Pa0 w wx b gq gs gr s) (cs:Array Value):PaR w (wx.alloc (.cells cs 34)) b gq gs gr wx.heap.size cs s:=by
  have h1:=h.zr.lt;have h2:=h.src.lt;exact⟨Y9z h.bel (Z00 _) _,h.zr.alloc _,Bk.new _ _ _,h.src.below (Y9z (Below.refl _ _) (Z00 _) _),⟨h.lo.1,h.lo.2.1,h.lo.2.2,h.bel.size⟩,⟨h.ne.1,h.ne.2,by omega,by omega,by omega⟩,⟨h2.1,h2.2,h1⟩⟩
structure PaP (w wx:World) (b:List UInt8) (gq gs gr gm:Nat) (cs:Array Value) (V:Value) (L:List Cst) (s:Rz Nat):Prop where
  par:PaR w wx b gq gs gr gm (cs.setIfInBounds 2 V) s
  own:OwS cstC 5 wx (gm+1) 39 V L
section
variable {w wx w':World} {b:List UInt8} {gq gs gr gm n:Nat} {cs:Array Value} {s s':Rz Nat} {V V':Value} {L L':List Cst}
theorem PaP.next (h:PaP w wx b gq gs gr gm cs V L s) (hs:Src w' gs gr b s') (c:Ch wx w' (Two gs gr)):PaP w w' b gq gs gr gm cs V L s':=
  ⟨h.par.next hs c,h.own.ch c (h.par.two (Z38 _))⟩
theorem PaP.below (h:PaP w wx b gq gs gr gm cs V L s) (hb:Below wx.heap.size wx w'):PaP w w' b gq gs gr gm cs V L s:=h.next (h.par.src.below hb) (Ch.of_below hb)
theorem PaP.sz (h:PaP w wx b gq gs gr gm cs V L s):gm+1≤wx.heap.size:=h.par.im.lt
theorem Y1q (cs:Array Value) (i:Nat) (u v:Value):(cs.setIfInBounds i u).setIfInBounds i v=cs.setIfInBounds i v:=by simp
theorem PaP.app (h:PaP w wx b gq gs gr gm cs V L s) (ho:OwS cstC 5 w' (gm+1) 39 V' L') (hb:Below (gm+1) wx w'):PaP w (w'.setCell ⟨gm,2,none⟩ V') b gq gs gr gm cs V' L' s:=
  ⟨by rw[←Y1q cs 2 V V'];exact(h.par.over hb (Z38 _)).set 2 V',ho.set_other (fun e=>by have:=(ho.blk e).1;simp only at this;omega) V'⟩
end
structure PaI (w wx:World) (b:List UInt8) (gq gs gr gm n:Nat) (x:ImE) (V:Value) (L:List Int) (s:Rz Nat):Prop where
  par:PaR w wx b gq gs gr gm ((imC x).setIfInBounds 6 V) s
  own:OwL iV wx n 3 V L
  rows:RImX wx (Btw gm n) x
  gn:gm<n
  le:n≤wx.heap.size
structure PaX (w wx:World) (b:List UInt8) (gq gs gr gm n:Nat) (x:ImE) (s:Rz Nat):Prop where
  par:PaR w wx b gq gs gr gm (imC x) s
  rows:RImX wx (Btw gm n) x
  gn:gm<n
  le:n≤wx.heap.size
section
variable {w wx w':World} {b:List UInt8} {gq gs gr gm n:Nat} {x y:ImE} {s s':Rz Nat} {V V':Value} {L L':List Int}
theorem W9b (h:RImX wx (Btw gm n) x) (hz:n≤wx.heap.size) {S:Nat→Prop} (c:Ch wx w' S) (hS:∀k,S k→k≤gm):RImX w' (Btw gm n) x:=
  h.step (fun k hk=>c.same k (Z07 hk.2 hz) (fun e=>by have:=hS k e;have:=hk.1;omega)) (fun _ h=>h)
theorem PaX.two (h:PaR w wx b gq gs gr gm (imC x) s):∀k,Two gs gr k→k≤gm:=fun k hk=>by rcases hk with e | e <;> (rw[e];have:=h.hi;omega)
theorem PaX.next (h:PaX w wx b gq gs gr gm n x s) (hs:Src w' gs gr b s') (c:Ch wx w' (Two gs gr)):PaX w w' b gq gs gr gm n x s':=
  ⟨h.par.next hs c,W9b h.rows h.le c (PaX.two h.par),h.gn,Z08 h.le c.size⟩
theorem PaX.below (h:PaX w wx b gq gs gr gm n x s) (hb:Below wx.heap.size wx w'):PaX w w' b gq gs gr gm n x s:=h.next (h.par.src.below hb) (Ch.of_below hb)
theorem PaX.top (h:PaX w wx b gq gs gr gm n x s):PaX w wx b gq gs gr gm wx.heap.size x s:=
  ⟨h.par,h.rows.step (fun _ _=>rfl) (fun _ hk=>⟨hk.1,Z07 hk.2 h.le⟩),Z07 h.gn h.le,Z00 _⟩
theorem PaX.set (h:PaX w wx b gq gs gr gm n x s) (i:Nat) (u:Value) (hc:(imC x).setIfInBounds i u=imC y) (hr:RImX wx (Btw gm n) x→RImX wx (Btw gm n) y):PaX w (wx.setCell ⟨gm,i,none⟩ u) b gq gs gr gm n y s:=by
  have hp:=h.par.set i u;rw[hc]at hp;exact⟨hp,(hr h.rows).step (fun k hk=>Below.heap_setCell wx _ u k (fun e=>by have:=hk.1;simp only at e;omega)) (fun _ h=>h),h.gn,by simpa [World.setCell] using h.le⟩
theorem PaX.rim (h:PaX w wx b gq gs gr gm n x s):RIm wx wx.heap.size x:=h.rows.rim fun _ hk=>Z07 hk.2 h.le
theorem PaI.two (h:PaI w wx b gq gs gr gm n x V L s):∀k,Two gs gr k→k≤gm:=fun k hk=>by rcases hk with e | e <;> (rw[e];have:=h.par.hi;omega)
theorem PaI.next (h:PaI w wx b gq gs gr gm n x V L s) (hs:Src w' gs gr b s') (c:Ch wx w' (Two gs gr)):PaI w w' b gq gs gr gm n x V L s':=
  ⟨h.par.next hs c,h.own.ch c (fun k hk e=>by have:=(World.ownsRow.lt h.own k hk).1;have:=h.two k e;have:=h.gn;omega),W9b h.rows h.le c h.two,h.gn,Z08 h.le c.size⟩
theorem PaI.below (h:PaI w wx b gq gs gr gm n x V L s) (hb:Below wx.heap.size wx w'):PaI w w' b gq gs gr gm n x V L s:=h.next (h.par.src.below hb) (Ch.of_below hb)
theorem PaI.app (h:PaI w wx b gq gs gr gm n x V L s) (ho:OwL iV w' n 3 V' L') (hb:Below n wx w'):PaI w (w'.setCell ⟨gm,6,none⟩ V') b gq gs gr gm n x V' L' s:=
  ⟨by rw[←Y1q (imC x) 6 V V'];exact(h.par.over hb h.gn).set 6 V',
   ho.kept (row:=some gm) ⟨rfl,rfl,rfl,by simp [World.setCell],fun k _ hk=>Below.heap_setCell w' _ V' k (fun e=>hk (by rw[e]))⟩ (.inr (fun e=>by have:=(World.ownsRow.lt ho gm e).1;have:=h.gn;omega)),
   h.rows.step (fun k hk=>(Below.heap_setCell w' _ V' k (fun e=>by have:=hk.1;simp only at e;omega)).trans (hb.block k hk.2)) (fun _ h=>h),h.gn,by have:=hb.size;have:=h.le;simp only[World.setCell,Array.size_modify];omega⟩
theorem PaX.start (h:PaX w wx b gq gs gr gm n x s) (hV : .slice x.iA x.i_n x.ic=V) (ho:V = .slice none 0 0):PaI w wx b gq gs gr gm wx.heap.size x V [] s:=
  ⟨by rw[←hV];exact h.par,by rw[ho];exact OwL.nil,h.top.rows,h.top.gn,Z00 _⟩
end
theorem PaI.fin {w wx:World} {b:List UInt8} {gq gs gr gm n:Nat} {x:ImE} {s:Rz Nat} {A:Option Addr} {m c:Nat} {L:List Int} (h:PaI w wx b gq gs gr gm n x (.slice A m c) L s) :
    PaX w wx b gq gs gr gm wx.heap.size { x with iA:=A,i_n:=m,ic:=c,ifs:=L } s:=by
  obtain⟨h1,h2⟩:=h.own.rx h.gn;have hr:=h.rows.step (w':=wx) (Y:=Btw gm wx.heap.size) (fun _ _=>rfl) (fun _ hk=>⟨hk.1,Z07 hk.2 h.le⟩);exact⟨h.par,⟨hr.pool,hr.pl,h1,h2,hr.fs,hr.fl,hr.ms,hr.ml,hr.as_,hr.al⟩,Z07 h.gn h.le,Z00 _⟩
theorem PaP.fin {w wx:World} {b:List UInt8} {gq gs gr gm:Nat} {s:Rz Nat} {A:Option Addr} {m c:Nat} {L:List Cst} {mi ma:Int} (h:PaP w wx b gq gs gr gm #[.int .i64 mi,.int .i64 ma,.slice none 0 0,.int .i64 0,.int .i64 0,.int .i64 0,.slice none 0 0,.slice none 0 0,.slice none 0 0,.slice none 0 0] (.slice A m c) L s) :
    PaX w wx b gq gs gr gm wx.heap.size ⟨mi,ma,A,m,c,L,0,0,0,none,0,0,[],none,0,0,[],none,0,0,[],none,0,0,[]⟩ s:=by
  obtain⟨h1,h2⟩:=h.own.rx (gm:=gm) (Z38 _);refine⟨h.par,⟨h1,h2,Rx.none_,⟨rfl,Z00 _,by show ((0:Nat):Int)≤_;decide⟩,⟨Rx.none_,fun y hy=>by cases hy⟩,⟨rfl,Z00 _,by show ((0:Nat):Int)≤_;decide⟩,⟨Rx.none_,fun y hy=>by cases hy⟩,⟨rfl,Z00 _,by show ((0:Nat):Int)≤_;decide⟩,⟨Rx.none_,fun y hy=>by cases hy⟩,⟨rfl,Z00 _,by show ((0:Nat):Int)≤_;decide⟩⟩,h.sz,Z00 _⟩
section
variable {b:List UInt8} {acc:List Cst} {f m p:Nat} {R7:Rz (List Cst×Nat)} {R:Rz (Cst×Nat)} {c:Cst}
theorem X1v (h:poolR b acc (.ok p) (f+1) (m+1)=R7) (hR:onR (.ok p) cstP b=R) (hc:∀x,R = .ok x→c=x.1) (h5:c.tag≠5):poolR b (acc++[c]) (stR R) f m=R7:=by
  rw[Y9n]at hR;cases R with
  | err k=>rw[←h,Y5h hR];rfl
  | ok x=>have e:=hc x rfl;subst e;rw[←h,X6s hR h5];rfl
theorem pool_long (h:poolR b acc (.ok p) (f+1) (m+2)=R7) (hR:onR (.ok p) cstP b=R) (hc:∀x,R = .ok x→c=x.1) (h5:c.tag=5):poolR b (acc++[c]++[cst0]) (stR R) f m=R7:=by
  rw[Y9n]at hR;rw[List.append_assoc];cases R with
  | err k=>rw[←h,Y5h hR];rfl
  | ok x=>have e:=hc x rfl;subst e;rw[←h,X8b hR h5];rfl
theorem pool_last {acc':List Cst} {f' m':Nat} (h:poolR b acc (.ok p) (f+1) 1=R7) (hR:onR (.ok p) cstP b=R) (hc:∀x,R = .ok x→c=x.1) (h5:c.tag=5):poolR b acc' (failR (stR R) 24) f' m'=R7:=by
  rw[Y9n]at hR;cases R with
  | err k=>rw[←h,Y5h hR];rfl
  | ok x=>have e:=hc x rfl;subst e;rw[←h,X7v hR h5];rfl
theorem X1x {s:Rz Nat} (h:poolR b acc s f m=R7) (he:m=0∨∃k,s = .err k):stR R7=s∧∀x,R7 = .ok x→acc=x.1:=by
  cases s with
  | err k=>rw[X3i]at h;subst h;exact⟨rfl,fun x hx=>by cases hx⟩
  | ok p=>
    rcases he with rfl | ⟨k,hk⟩
    · rw[X7w]at h;subst h;exact⟨rfl,fun x hx=>by injection hx with hx;rw[←hx]⟩
    · cases hk
end
def PoolAt (L:List Cst) (s:Rz Nat) (f m k:Nat):Prop:=∀p,s = .ok p→L.length+1+m=k∧m<f∧k≤1024
theorem PoolAt.start {s5 s6:Rz Nat} {k:Nat} (h6:(if (k:Int)<1∨1024<(k:Int) then failR s5 24 else s5)=s6):PoolAt [] s6 k (k-1) k:=fun p hp=>by
  by_cases hc:(k:Int)<1∨1024<(k:Int)
  · rw[if_pos hc,hp]at h6
    cases s5 <;> cases h6
  · simp only[Z13];omega
theorem PoolAt.one {L:List Cst} {s:Rz Nat} {f m k p:Nat} {c:Cst} (h:PoolAt L (.ok p) (f+1) (m+1) k):PoolAt (L++[c]) s f m k:=fun q _=>by
  have:=h p rfl
  rw[Z09,List.length_singleton];omega
theorem PoolAt.long {L:List Cst} {s:Rz Nat} {f m k p:Nat} {c d:Cst} (h:PoolAt L (.ok p) (f+1) (m+2) k):PoolAt (L++[c]++[d]) s f m k:=fun q _=>by
  have:=h p rfl
  rw[Z09,Z09,List.length_singleton];show L.length+1+1+1+m=k∧_;omega
theorem PoolAt.fail {L:List Cst} {s:Rz Nat} {f m k:Nat}:PoolAt L (failR s 24) f m k:=fun q hq=>by cases s <;> cases hq
theorem PoolAt.get {L:List Cst} {f m k p:Nat} (h:PoolAt L (.ok p) f m k) (hl:L.length+1<k):∃f' m',f=f'+1∧m=m'+1∧L.length+1+m'+1=k∧k≤1024:=by
  have:=h p rfl
  exact⟨f-1,m-1,by omega,by omega,by omega,by omega⟩
theorem PoolAt.done {L:List Cst} {s:Rz Nat} {f m k:Nat} (h:PoolAt L s f m k) (hl:¬(L.length+1<k∧∃p,s = .ok p)):m=0∨∃e,s = .err e:=by
  cases s with
  | err e=>exact .inr ⟨e,rfl⟩
  | ok p=>have:=h p rfl;exact .inl (by have:¬L.length+1<k:=fun e=>hl ⟨e,p,rfl⟩;omega)
theorem X6b (p:Prop):∃q:Bool,(q=true↔p):=by
  by_cases h:p
  · exact⟨true,by simp [h]⟩
  · exact⟨false,by simp [h]⟩
theorem X5k {b:List UInt8} {L:List Cst} {f m p k n1:Nat} {R7:Rz (List Cst×Nat)} {R:Rz (Cst×Nat)} {c:Cst} {s3:Rz Nat} (h:poolR b (cst0::L) (.ok p) (f+1) (m+1)=R7) (hR:onR (.ok p) cstP b=R) (hc:∀x,R = .ok x→c=x.1) (h5:c.tag=5) (ha:PoolAt L (.ok p) (f+1) (m+1) k)
    (hn:L.length+1+1=n1) (hs:(if n1=k then failR (stR R) 24 else stR R)=s3):poolR b (cst0::(L++[c]++[cst0])) s3 f (m-1)=R7∧PoolAt (L++[c]++[cst0]) s3 f (m-1) k:=by
  have h0:=ha p rfl;by_cases hk:n1=k
  · rw[if_pos hk]at hs
    have hm:m=0:=(by omega);subst hm;subst hs;exact⟨pool_last h hR hc h5,PoolAt.fail⟩
  · rw[if_neg hk]at hs
    obtain⟨q,rfl⟩:∃q,m=q+1:=⟨m-1,by omega⟩;subst hs;exact⟨pool_long h hR hc h5,ha.long⟩
theorem Y2s {c:Cst} (h:cstV c):(-9223372036854775808≤c.tag∧c.tag≤9223372036854775807)∧c.text.length≤2000000:=by
  unfold cstV at h
  split at h
  · rename_i h1;exact⟨by omega,by omega⟩
  split at h
  · rename_i h1;have e:c.text=[]:=congrArg Cst.text h.2.2
    rw[e];exact⟨by omega,by decide⟩
  split at h
  · rename_i h1;have e:c.text=[]:=congrArg Cst.text h.2.2
    rw[e];exact⟨by omega,by decide⟩
  split at h
  · rename_i h1;have e:c.text=[]:=congrArg Cst.text h.2
    rw[e];exact⟨by omega,by decide⟩
  · have e:c.text=[]:=congrArg Cst.text h.2.2.2
    rw[e];exact⟨by omega,by decide⟩
theorem X8g {l:List Cst} (h:PoolV l):∀c∈l,(-9223372036854775808≤c.tag∧c.tag≤9223372036854775807)∧c.text.length≤2000000:=by
  induction h with
  | nil=>intro c hc;cases hc
  | one c r hc _ _ ih=>
    intro x hx;rcases Z23.1 hx with e | e
    · subst e;exact Y2s hc
    · exact ih x e
  | long c r hc _ _ ih=>
    intro x hx;rcases Z23.1 hx with e | e
    · subst e;exact Y2s hc
    rcases Z23.1 e with e | e
    · subst e;exact⟨by decide,by decide⟩
    · exact ih x e
theorem Y2r {b:List UInt8} {m:Img} {p:Nat} (h:imgP b 0 = .ok (m,p)):∀c∈m.pool,(-9223372036854775808≤c.tag∧c.tag≤9223372036854775807)∧c.text.length≤2000000:=by
  obtain⟨⟨_,_,⟨pl,hp,_,hv⟩,_⟩,_⟩:=X2h.bwd b 0 m p (Z35 _) h;intro c hc;rw[hp]at hc;rcases Z23.1 hc with e | e
  · subst e;exact⟨by decide,by decide⟩
  · exact X8g hv c e
section
variable {b:List UInt8} {s:Rz Nat}
theorem X0k {r:Rz (Nat×Nat)} {n:Nat} (h:onR s cntI b=r) (hn:valN r=(n:Int)):onR s ifP b=(repR (rdN 2) b [] (stR r) n).bind fun z => .ok (z.1.map (fun x:Nat=>(x:Int)),z.2):=by
  rw[←Y3m h hn];cases s with
  | err k=>rfl
  | ok p=>rw[Y9n,Y9n];show ((cntI b p).bind fun x=>((repP (rdN 2) x.1 b x.2).bind fun y => .ok (y.1.map (fun x:Nat=>(x:Int)),y.2)))=((cntI b p).bind fun x=>repP (rdN 2) x.1 b x.2).bind _;cases cntI b p <;> rfl
theorem X2b {acc:List Nat} {m y:Nat} {R:Rz (List Nat×Nat)} {r:Rz (Nat×Nat)} (hR:repR (rdN 2) b acc s (m+1)=R) (h:onR s (rdN 2) b=r) (hy:valN r=(y:Int)):repR (rdN 2) b (acc++[y]) (stR r) m=R:=by
  cases s with
  | err k=>rw[Y0d]at hR;have h:(.err k:Rz (Nat×Nat))=r:=h;subst h;exact hR
  | ok p=>exact Y5p hR h (fun x hx=>by
      subst hx
      have:(x.1:Int)=y:=hy
      omega)
theorem W5p {acc:List Nat} {RR:Rz (List Nat×Nat)} {r11:Rz (List Int×Nat)} (h:repR (rdN 2) b acc s 0=RR) (h11:(RR.bind fun z => .ok (z.1.map (fun x:Nat=>(x:Int)),z.2))=r11):stR r11=s∧∀x,r11 = .ok x→acc.map (fun x:Nat=>(x:Int))=x.1:=by
  obtain⟨e1,e2⟩:=Y1j h (.inl rfl);subst h11;cases RR with
  | err k=>exact⟨e1,fun x hx=>by cases hx⟩
  | ok z=>exact⟨e1,fun x hx=>by
      have hx:Rz.ok (z.1.map (fun x:Nat=>(x:Int)),z.2)=Rz.ok x:=hx;injection hx with hx
      rw[e2 z rfl,←hx]⟩
theorem Y6t {α β:Type} {r:Rz (α×Nat)} {A:Py β} {z:β×Nat} (h:onR (stR r) A b = .ok z):∃x,r = .ok x:=by
  cases r with
  | err k=>cases h
  | ok x=>exact⟨x,rfl⟩
theorem Y3t {α:Type} {r:Rz (List α×Nat)} {L:List α} (h:∀x,r = .ok x→L=x.1) {z:List α×Nat} (hz:r = .ok z):valL r=L:=by
  rw[hz,h z hz];rfl
def fin15 (r14:Rz (List Att×Nat)) (b:List UInt8) (m:Img):Rz Nat:=r14.bind fun z=>if z.2≠b.length∨holdsP m=false then .err 24 else .ok z.2
theorem X6u {mi ma n:Nat} {s6:Rz Nat} {R7:Rz (List Cst×Nat)} {r8 r9 r10:Rz (Nat×Nat)} {r11:Rz (List Int×Nat)} {r12 r13:Rz (List Mem×Nat)} {r14:Rz (List Att×Nat)} {pl:List Cst} {ifs:List Int} {fs ms:List Mem} {as_:List Att} {m:Img}
    (hb:b.length≤32768) (hi:imgP b 0=onR s6 (im7 mi ma n) b)
    (h7:poolR b [cst0] s6 n (n-1)=R7) (h8:onR (stR R7) (rdN 2) b=r8) (h9:onR (stR r8) (rdN 2) b=r9) (h10:onR (stR r9) (rdN 2) b=r10) (h11:onR (stR r10) ifP b=r11) (h12:onR (stR r11) memsP b=r12)
    (h13:onR (stR r12) memsP b=r13) (h14:onR (stR r13) attsP b=r14) (k7:∀x,R7 = .ok x→pl=x.1) (k11:∀x,r11 = .ok x→ifs=x.1) (k12:∀x,r12 = .ok x→fs=x.1) (k13:∀x,r13 = .ok x→ms=x.1) (k14:∀x,r14 = .ok x→as_=x.1)
    (hm:m=⟨mi,ma,pl,valN r8,valN r9,valN r10,ifs,fs,ms,as_⟩):parseP b=(fin15 r14 b m).bind (fun _ => .ok m)∧∀z,r14 = .ok z→imgP b 0 = .ok (m,z.2):=by
  rw[X5c h7 h8 h9 h10 h11 h12 h13 h14]at hi;unfold parseP;rw[if_neg (by omega),hi];cases hr:r14 with
  | err k=>exact⟨rfl,fun z hz=>by cases hz⟩
  | ok z=>
    rw[hr]at h14;obtain⟨x13,e13⟩:=Y6t h14;rw[e13]at h13;obtain⟨x12,e12⟩:=Y6t h13;rw[e12]at h12;obtain⟨x11,e11⟩:=Y6t h12;rw[e11]at h11;obtain⟨x10,e10⟩:=Y6t h11;rw[e10]at h10;obtain⟨x9,e9⟩:=Y6t h10;rw[e9]at h9;obtain⟨x8,e8⟩:=Y6t h9;rw[e8]at h8;obtain⟨x7,e7⟩:=Y6t h8;have em:(⟨mi,ma,valL R7,valN r8,valN r9,valN r10,valL r11,valL r12,valL r13,z.1⟩:Img)=m:=by rw[hm,Y3t k7 e7,Y3t k11 e11,Y3t k12 e12,Y3t k13 e13,k14 z hr]
    constructor
    · show (Rz.ok ((⟨mi,ma,valL R7,valN r8,valN r9,valN r10,valL r11,valL r12,valL r13,z.1⟩:Img),z.2)).bind (fun x=>if x.2≠b.length∨holdsP x.1=false then Rz.err 24 else .ok x.1)=(if z.2≠b.length∨holdsP m=false then Rz.err 24 else .ok z.2).bind fun _ => .ok m
      rw[em];show (if z.2≠b.length∨holdsP m=false then Rz.err 24 else .ok m)=_
      split <;> rfl
    · intro z' hz
      injection hz with hz
      subst hz;show Rz.ok ((⟨mi,ma,valL R7,valN r8,valN r9,valN r10,valL r11,valL r12,valL r13,z.1⟩:Img),z.2)=_;rw[em]
end
section
variable {w wx:World} {b:List UInt8} {gq gs gr gm n:Nat} {x:ImE} {s:Rz Nat} {A1 A2:Option Addr} {n1 c1 n2 c2:Nat} {L1 L2:List MmE}
theorem X6d {k i:Nat} {v:Value} (hk:Btw gm n k):(wx.setCell ⟨gm,i,none⟩ v).heap[k]? = wx.heap[k]? := Below.heap_setCell wx _ v k (fun e=>by have:=hk.1;simp only at e;omega)
theorem PaX.mem2 (h:PaX w wx b gq gs gr gm n x s) (f1:(Rx wx (Btw gm n) A1 (L1.flatMap memC)∧∀y∈L1,MmX wx (Btw gm n) y)∧L1.length=n1∧n1≤c1∧(c1:Int)≤9223372036854775807)
    (f2:(Rx wx (Btw gm n) A2 (L2.flatMap memC)∧∀y∈L2,MmX wx (Btw gm n) y)∧L2.length=n2∧n2≤c2∧(c2:Int)≤9223372036854775807) :
    PaX w ((wx.setCell ⟨gm,7,none⟩ (.slice A1 n1 c1)).setCell ⟨gm,8,none⟩ (.slice A2 n2 c2)) b gq gs gr gm n { x with fA:=A1,fn:=n1,fc:=c1,fs:=L1,mA:=A2,mn:=n2,mc:=c2,ms:=L2 } s:=by
  have h1:=h.set (y:={ x with fA:=A1,fn:=n1,fc:=c1,fs:=L1 }) 7 (.slice A1 n1 c1) rfl (fun h=>⟨h.pool,h.pl,h.ifs,h.il,f1.1,f1.2,h.ms,h.ml,h.as_,h.al⟩);exact h1.set 8 (.slice A2 n2 c2) rfl (fun h=>⟨h.pool,h.pl,h.ifs,h.il,h.fs,h.fl,⟨f2.1.1.step (fun _ hk=>X6d hk) (fun _ h=>h),fun y hy=>(f2.1.2 y hy).step (fun _ hk=>X6d hk) (fun _ h=>h)⟩,f2.2,h.as_,h.al⟩)
theorem PaX.att1 {L:List AtE} (h:PaX w wx b gq gs gr gm n x s) (f1:RAX wx (Btw gm n) A1 L∧L.length=n1∧n1≤c1∧(c1:Int)≤9223372036854775807) :
    PaX w (wx.setCell ⟨gm,9,none⟩ (.slice A1 n1 c1)) b gq gs gr gm n { x with aA:=A1,an:=n1,ac:=c1,as_:=L } s:=
  h.set 9 (.slice A1 n1 c1) rfl (fun h=>⟨h.pool,h.pl,h.ifs,h.il,h.fs,h.fl,h.ms,h.ml,f1.1,f1.2⟩)
theorem PaX.num3 (h:PaX w wx b gq gs gr gm n x s) (v:Int):PaX w (wx.setCell ⟨gm,3,none⟩ (.int .i64 v)) b gq gs gr gm n { x with access:=v } s:=
  h.set 3 (.int .i64 v) rfl (fun h=>⟨h.pool,h.pl,h.ifs,h.il,h.fs,h.fl,h.ms,h.ml,h.as_,h.al⟩)
theorem PaX.num4 (h:PaX w wx b gq gs gr gm n x s) (v:Int):PaX w (wx.setCell ⟨gm,4,none⟩ (.int .i64 v)) b gq gs gr gm n { x with this:=v } s:=
  h.set 4 (.int .i64 v) rfl (fun h=>⟨h.pool,h.pl,h.ifs,h.il,h.fs,h.fl,h.ms,h.ml,h.as_,h.al⟩)
theorem PaX.num5 (h:PaX w wx b gq gs gr gm n x s) (v:Int):PaX w (wx.setCell ⟨gm,5,none⟩ (.int .i64 v)) b gq gs gr gm n { x with super:=v } s:=
  h.set 5 (.int .i64 v) rfl (fun h=>⟨h.pool,h.pl,h.ifs,h.il,h.fs,h.fl,h.ms,h.ml,h.as_,h.al⟩)
end
theorem X7i {r14:Rz (List Att×Nat)} {b:List UInt8} {m:Img} (h:∃z,r14 = .ok z∧(z.2≠b.length∨holdsP m=false)):fin15 r14 b m=failR (stR r14) 24:=by
  obtain⟨z,rfl,hz⟩:=h;show (if z.2≠b.length∨holdsP m=false then Rz.err 24 else .ok z.2) = .err 24;rw[if_pos hz]
theorem Y0t {r14:Rz (List Att×Nat)} {b:List UInt8} {m:Img} (h:¬∃z,r14 = .ok z∧(z.2≠b.length∨holdsP m=false)):fin15 r14 b m=stR r14:=by
  cases r14 with
  | err k=>rfl
  | ok z=>show (if z.2≠b.length∨holdsP m=false then Rz.err 24 else .ok z.2) = .ok z.2;rw[if_neg (fun e=>h ⟨z,rfl,e⟩)]
end Go.Proofs.YtpmfiegfbmamiaaDoor
