/- Contract of klass's view: read. -/
import Derived.Test.YtpmfiegfbmamiaaDoorPm9
import Derived.Test.YtpmfiegfbmamiaaDoorPm11
import Derived.Test.YtpmfiegfbmamiaaDoorPm12
namespace Go.Proofs.YtpmfiegfbmamiaaDoor
set_option maxRecDepth 100000
set_option maxHeartbeats 8000000
open Go.RowKit
set_option linter.unusedSimpArgs false
theorem Y9h:(Tryd.prog.info? 27).map (·.size)=some 7:=by kernel_rfl
def z7:Array Value:=#[.int .i64 0,.string ⟨#[]⟩,.string ⟨#[]⟩,.slice none 0 0,.slice none 0 0,.slice none 0 0,.slice none 0 0]
def klA (ac:Int) (nm su:List UInt8) (iv fv mv pv:Value):Array Value:=#[.int .i64 ac,strQ nm,strQ su,iv,fv,mv,pv]
theorem cstTy:ETy Tryd.prog 25 39 (.agg #[.int .i64 0,.int .i64 0,.int .i64 0,.int .i64 0,.string ⟨#[]⟩]) 5 48:=⟨Tryd.underlying25,info_parts (by kernel_rfl),rfl,by decide⟩
theorem Y6n (ac:Int) (nm su:List UInt8) (A1 A2 A3 A4:Option Addr) (n1 n2 n3 n4 c1 c2 c3 c4:Nat):(klA ac nm su (.slice A1 n1 c1) (.slice A2 n2 c2) (.slice A3 n3 c3) (.slice A4 n4 c4)).all (·.oneCell')=true:=by simp [klA,strQ,Value.oneCell']
theorem OwS.lit0 {α:Type} {fC:α→List Value} {sz B:Nat} {e:TypeId} (w:World) (hB:B≤w.heap.size):OwS fC sz (w.alloc (.cells #[] e)) B e (.slice (some ⟨w.heap.size,0,none⟩) 0 0) []:=by
 exact World.ownsRow_made w #[] 0 hB (by unfold maxLen;omega) (by simp)
section
variable {w w':World} {gv:Nat} {x:ImE} {b:Bool}
theorem Vw.far {U:Nat→Prop} (h:Vw w gv x b) (c:Ch w w' U) (hU:∀k,k≤gv→¬U k):Vw w' gv x b:=by
 refine⟨h.box.ch c (hU _ (Z00 _)),?_,Z07 h.lt c.size,h.txt,h.mx.1,?_⟩
 ·exact h.im.below (B':=gv) (c.below (Z12 h.lt) (fun k hk=>hU _ (Z12 hk))) (Z00 _)
 ·obtain⟨m,hm⟩:=h.mx.2
  exact⟨m,(Y9c (p:=⟨0,0,none⟩) (c.same _ (Nat.lt_trans h.mx.1 h.lt) (hU _ (Z12 h.mx.1)))).trans hm⟩
theorem Vw.flag (h:Vw w gv x b) (b':Bool):Vw (w.setCell ⟨gv,10,none⟩ (.bool b')) gv x b':=by
 have c:Ch w (w.setCell ⟨gv,10,none⟩ (.bool b')) (OneR gv):=Ch.one;refine⟨h.box.set 10 _,?_,Z07 h.lt c.size,h.txt,h.mx.1,?_⟩
 ·exact h.im.below (B':=gv) (c.below (Z12 h.lt) (fun k hk e=>by have e:k=gv:=e;omega)) (Z00 _)
 ·obtain⟨m,hm⟩:=h.mx.2
  exact⟨m,(Y9c (p:=⟨0,0,none⟩) (c.same _ (Nat.lt_trans h.mx.1 h.lt) (fun e=>by have e:0=gv:=e;have:=h.mx.1;omega))).trans hm⟩
end
def ClsP (w:World) (pool:List Cst) (c:Cls) (e:Ending) (w':World):Prop:=∃y:ClE,y.p=c∧y.pool.l=pool∧ClX w' (Nw w w') y∧e = .returned (.agg (clA y))
def KrdP (w:World) (gv:Nat) (pool:List Cst) (o:Option Cls) (e:Ending) (w':World):Prop:=
 (match o with
  | some c=>ClsP w pool c e w'
  | none=>e = .panicked brkC)∧Ch w w' (OneR gv)
theorem SqX.ofo {α:Type} {fC:α→List Value} {w:World} {X:Nat→Prop} {B sz n c:Nat} {e:TypeId} {A:Option Addr} {l:List α} (h:OwS fC sz w B e (.slice A n c) l) (hX:∀k,(Value.slice A n c).ownBlock=some k→X k):SqX fC w X ⟨A,n,c,l⟩:=by
 have h0:=SqX.of (X:=fun k=>B≤k∧k<w.heap.size) h (fun k h1 h2=>⟨h1,h2⟩);refine⟨h0.1,h0.2.1,h0.2.2.1,fun hn=>?_⟩;obtain⟨ad,e2,hx,hcl⟩:=h0.2.2.2 hn;refine⟨ad,e2,hX _ ?_,hcl⟩;have e2:A=some ad:=e2;rcases h.2 with⟨e3,_⟩ | ⟨g,cap,cur,e3,_⟩
 ·injection e3 with e3 _ _;rw[e2]at e3;cases e3
 ·injection e3 with e3 _ _
  rw[e2]at e3 ⊢;injection e3 with e3
  subst e3
  rfl
def EachI {α β:Type} (f:α→Option β) (key:β→List UInt8×List UInt8) (L:List α) (i:Nat) (acc:List β):Prop:=eachK f key L []=(eachK f key (L.drop i) (acc.map key).reverse).map fun r=>acc++r
section
variable {α β:Type} {f:α→Option β} {key:β→List UInt8×List UInt8} {L:List α} {i:Nat} {acc:List β} {x:α} {y:β}
theorem EachI.start:EachI f key L 0 []:=by
 unfold EachI;rw[List.drop_zero];show eachK f key L []=(eachK f key L []).map _;cases eachK f key L [] <;> rfl
theorem EachI.go (h:EachI f key L i acc) (hx:L[i]? = some x):eachK f key L []=(((f x).bind fun y=>gdK (!(acc.map key).reverse.contains (key y)) ((eachK f key (L.drop (i+1)) (key y::(acc.map key).reverse)).map fun l=>y::l))).map fun r=>acc++r:=by
 unfold EachI at h;obtain⟨hi,e⟩:=Z24.1 hx;rw[h,Z42 hi,e]
 rfl
theorem EachI.stop (h:EachI f key L i acc) (hx:L[i]? = some x) (hf:f x=none):eachK f key L []=none:=by
 rw[h.go hx,hf]
 rfl
theorem EachI.twice (h:EachI f key L i acc) (hx:L[i]? = some x) (hf:f x=some y) (hk:(acc.map key).contains (key y)=true):eachK f key L []=none:=by
 rw[h.go hx,hf];show (gdK _ _).map _=none;rw[show (acc.map key).reverse.contains (key y)=true by simpa using hk]
 rfl
theorem EachI.next (h:EachI f key L i acc) (hx:L[i]? = some x) (hf:f x=some y) (hk:(acc.map key).contains (key y)=false):EachI f key L (i+1) (acc++[y]):=by
 unfold EachI;rw[h.go hx,hf];show (gdK _ _).map _=_;rw[show (acc.map key).reverse.contains (key y)=false by simpa using hk];rw[Z34,List.reverse_append];show ((eachK f key (L.drop (i+1)) (key y::(acc.map key).reverse)).map fun l=>y::l).map (fun r=>acc++r)=(eachK f key (L.drop (i+1)) (key y::(acc.map key).reverse)).map fun r=>acc++[y]++r;cases eachK f key (L.drop (i+1)) (key y::(acc.map key).reverse) with
 | none=>rfl
 | some r=>show some _=some _;simp
theorem EachI.done (h:EachI f key L L.length acc):eachK f key L []=some acc:=by
 unfold EachI at h;rw[h,List.drop_length];show some (acc++[])=_;rw[Z14]
end
def SeenG {κ:Type} (mem:κ→Bool) (k:κ):Option Value:=if mem k=true then some (.bool true) else none
theorem Y3l {κ:Type} {mem:κ→Bool} {k:κ} {q:Bool} (h:mem k=q):(SeenG mem k).getD (.bool false) = .bool q:=by
 unfold SeenG;rw[h];cases q <;> rfl
def keyS (s:List UInt8):List UInt8×List UInt8:=(s,[])
def memS (acc:List (List UInt8)) (s:List UInt8):Bool:=(acc.map keyS).contains (keyS s)
theorem X3b (acc:List (List UInt8)) (s k:List UInt8):SeenG (memS (acc++[s])) k=if k=s then some (.bool true) else SeenG (memS acc) k:=by
 unfold SeenG memS;rw[Z34,List.contains_append];by_cases h:k=s
 ·rw[if_pos h,h]
  simp
 ·rw[if_neg h]
  have:([s].map keyS).contains (keyS k)=false:=by simp [keyS];exact h
  rw[this,Bool.or_false]
theorem stTy:ETy Tryd.prog 22 9 (.string ⟨#[]⟩) 1 16:=⟨Tryd.underlying22,info_parts (by kernel_rfl),rfl,by decide⟩
theorem Y6f (w:World):(zeroValue 4).run Tryd.prog w = .ok (.bool false) w:=by kernel_rfl
structure Krs (w0 wx:World) (gv g2 g5 gm base:Nat) (x:ImE) (b:Bool) (cs:Array Value) (y:ClE):Prop where
 vw:Vw wx gv x b
 k2:Bk wx g2 27 z7
 k5:Bk wx g5 27 cs
 ch:Ch w0 wx (OneR gv)
 fx:ClX wx (fun k=>g2<k∧k<base∧k≠gm∧k≠g5) y
 od:gv<w0.heap.size∧w0.heap.size≤g2∧g2<g5∧g5<gm∧gm<base∧base≤wx.heap.size
section
variable {w0 wx w':World} {gv g2 g5 gm base:Nat} {x:ImE} {b:Bool} {cs:Array Value} {y:ClE}
theorem Krs.step {U:Nat→Prop} (h:Krs w0 wx gv g2 g5 gm base x b cs y) (c:Ch wx w' U) (hU:∀k,U k→k=gm∨base≤k):Krs w0 w' gv g2 g5 gm base x b cs y:=by
 have ho:=h.od;exact⟨h.vw.far c (fun k hk e=>by have:=hU k e;omega),h.k2.ch c (fun e=>by have:=hU _ e;omega),h.k5.ch c (fun e=>by have:=hU _ e;omega),h.ch.trans c (fun k hk e=>by have:=hU k e;omega),h.fx.step (fun k hk=>c.same k (by omega) (fun e=>by have:=hU k e;omega)) (fun _ hk=>hk),⟨ho.1,ho.2.1,ho.2.2.1,ho.2.2.2.1,ho.2.2.2.2.1,Z08 ho.2.2.2.2.2 c.size⟩⟩
theorem Krs.below (h:Krs w0 wx gv g2 g5 gm base x b cs y) (c:Below wx.heap.size wx w'):Krs w0 w' gv g2 g5 gm base x b cs y:=h.step (U:=fun _=>False) (Ch.of_below c) (fun _ e=>e.elim)
theorem Krs.set5 (h:Krs w0 wx gv g2 g5 gm base x b cs y) (i:Nat) (u:Value):Krs w0 (wx.setCell ⟨g5,i,none⟩ u) gv g2 g5 gm base x b (cs.setIfInBounds i u) y:=by
 have ho:=h.od;have c:Ch wx (wx.setCell ⟨g5,i,none⟩ u) (OneR g5):=Ch.one;exact⟨h.vw.far c (fun k hk e=>by have e:k=g5:=e;omega),h.k2.ch c (fun e=>by have e:g2=g5:=e;omega),h.k5.set i u,h.ch.trans c (fun k hk e=>by have e:k=g5:=e;omega),h.fx.step (fun k hk=>c.same k (by omega) (fun e=>hk.2.2.2 e)) (fun _ hk=>hk),⟨ho.1,ho.2.1,ho.2.2.1,ho.2.2.2.1,ho.2.2.2.2.1,Z08 ho.2.2.2.2.2 c.size⟩⟩
theorem Krs.cell (h:Krs w0 wx gv g2 g5 gm base x b cs y) {i:Nat} {u:Value} (hu:cs[i]? = some u):wx.cell? ⟨g5,i,none⟩=some u:=(h.k5.cell i).trans hu
end
theorem Krs.next {w0 wx w':World} {gv g2 g5 gm base:Nat} {x:ImE} {b:Bool} {cs:Array Value} {y y':ClE} (h:Krs w0 wx gv g2 g5 gm base x b cs y) (hy:ClX wx (fun k=>g2<k∧k<wx.heap.size∧k≠g5) y') (hb:Below wx.heap.size wx w') (d:Nat) (hd:wx.heap.size+d≤w'.heap.size) (h1:1≤d):Krs w0 w' gv g2 g5 wx.heap.size (wx.heap.size+d) x b cs y':=by
 have ho:=h.od;have h5:=h.k5.lt;exact⟨h.vw.below hb,h.k2.below hb h.k2.lt,h.k5.below hb h.k5.lt,h.ch.trans (Ch.of_below (S:=OneR gv) hb) (fun _ _ e=>e),hy.step (fun k hk=>hb.block k hk.2.1) (fun k hk=>⟨hk.1,by have:=hk.2.1;omega,by have:=hk.2.1;omega,hk.2.2⟩),⟨ho.1,ho.2.1,ho.2.2.1,h5,by omega,hd⟩⟩
def keyF (f:Fld):List UInt8×List UInt8:=(f.name,f.desc)
def keyM (f:Mth):List UInt8×List UInt8:=(f.name,f.desc)
def memB9 {β:Type} (key:β→List UInt8×List UInt8) (acc:List β) (k:List UInt8×List UInt8):Bool:=(acc.map key).contains k
theorem Y4d {β:Type} (key:β→List UInt8×List UInt8) (acc:List β) (s:β) (k:List UInt8×List UInt8):SeenG (memB9 key (acc++[s])) k=if k=key s then some (.bool true) else SeenG (memB9 key acc) k:=by
 unfold SeenG memB9;rw[Z34,List.contains_append];by_cases h:k=key s
 ·rw[if_pos h,h]
  simp
 ·rw[if_neg h]
  have:([s].map key).contains k=false:=by
   simp
   exact h
  rw[this,Bool.or_false]
theorem flTy:ETy Tryd.prog 23 61 (.agg #[.int .i64 0,.string ⟨#[]⟩,.string ⟨#[]⟩,.int .i64 0]) 4 48:=⟨Tryd.underlying23,info_parts (by kernel_rfl),rfl,by decide⟩
theorem mtTy:ETy Tryd.prog 24 51 (.agg #[.int .i64 0,.string ⟨#[]⟩,.string ⟨#[]⟩,.bool false,.int .i64 0,.int .i64 0,.slice none 0 0,.slice none 0 0,.slice none 0 0]) 9 136:=⟨Tryd.underlying24,info_parts (by kernel_rfl),rfl,by decide⟩
theorem X0o {pool:List Cst} {b:Bool} {x:Mem} {f:Fld} (h:fldK pool b x=some f):txtK pool x.name=some f.name∧txtK pool x.desc=some f.desc:=by
 cases h1:txtK pool x.name with
 | none=>rw[X4q h1]at h;cases h
 | some n=>
  cases h2:txtK pool x.desc with
  | none=>rw[X9v h1 h2]at h;cases h
  | some d=>
   rw[W9q h1 h2]at h;unfold gdK at h
   split at h
   ·obtain⟨vs,_,h4⟩:=Y6j h
    unfold fldR at h4
    split at h4
    ·injection h4 with h4
     subst h4;exact⟨rfl,rfl⟩
    ·split at h4
     ·split at h4
      ·dsimp only at h4
       unfold gdK at h4
       split at h4
       ·injection h4 with h4
        subst h4;exact⟨rfl,rfl⟩
       ·cases h4
      ·cases h4
     ·cases h4
   ·cases h
theorem MapT.nocell {κ:Type} {f:κ→Value} {G:κ→Option Value} {P:Program} {k:TypeId} {w:World} {b n:Nat} (h:MapT f w P k b n G) (p:Addr) (hp:p.block=b):w.cell? p=none:=by
 obtain⟨F,⟨D,⟨es,clock,he,_⟩,_⟩,_⟩:=h;unfold World.cell?;rw[hp,he]
theorem SqX.nomap {α:Type} {fC:α→List Value} {w:World} {X:Nat→Prop} {s:Sq α} {g:Nat} (h:SqX fC w X s) (hn:∀p:Addr,p.block=g→w.cell? p=none):SqX fC w (fun k=>X k∧k≠g) s:=by
 refine⟨h.1,h.2.1,h.2.2.1,fun hne=>?_⟩;obtain⟨ad,e,hx,hc⟩:=h.2.2.2 hne;refine⟨ad,e,⟨hx,fun e2=>?_⟩,hc⟩;cases hl:s.l.flatMap fC with
 | nil=>exact hne hl
 | cons u r=>have h1:=hc 0 u (by rw[hl];rfl);rw[hn _ (by rw[Y2c];exact e2)]at h1;cases h1
theorem X1h {pool:List Cst} {b:Bool} {x:Mem} {f:Mth} {ac:Nat} (ha:x.access=(ac:Int)) (h:mthK pool b x=some f):txtK pool x.name=some f.name∧txtK pool x.desc=some f.desc:=by
 cases h1:txtK pool x.name with
 | none=>rw[X4b h1]at h;cases h
 | some n=>
  cases h2:txtK pool x.desc with
  | none=>rw[X8t h1 h2]at h;cases h
  | some d=>
   rw[W9c h1 h2 ha]at h;unfold gdK at h
   split at h
   ·obtain⟨pr,_,h4⟩:=Y6j h
    split at h4
    ·split at h4
     ·split at h4
      ·obtain⟨vs,_,h5⟩:=Y6j h4
       unfold mthR at h5
       split at h5
       ·unfold gdK at h5
        split at h5
        ·injection h5 with h5;subst h5;exact⟨rfl,rfl⟩
        ·cases h5
       ·split at h5
        ·obtain⟨k,_,h6⟩:=Option.map_eq_some_iff.1 h5
         subst h6;exact⟨rfl,rfl⟩
        ·cases h5
      ·cases h4
     ·cases h4
    ·cases h4
   ·cases h
theorem X8i {R:Ending→World→Prop} {x:ImE} {b:Bool} {gv:Nat} {w:World} (m:MmE) (ac:Nat) (hv:Vw w gv x b) (hm:MmB w w.heap.size m) (hac:m.access=(ac:Int)) (hac2:ac<65536) (hl:m.n≤100000000) (hd:∀a∈m.L,(a.s.n:Int)≤140737488355328)
  (hno:mthK x.p.pool b m.p=none→∀w',Below w.heap.size w w'→R (.panicked brkC) w')
  (hyes:∀f,mthK x.p.pool b m.p=some f→∀w',Below w.heap.size w w'→∀(y:MtE) (A1 A2 A3:Option Addr) (n1 n2 n3 c1 c2 c3:Nat),y.p=f→MtX w' (Nw w w') y→mtC y=[.int .i64 y.access,strQ f.name,strQ f.desc,.bool y.there,.int .i64 y.stack,.int .i64 y.locals,.slice A1 n1 c1,.slice A2 n2 c2,.slice A3 n3 c3]→R (.returned (.agg #[.int .i64 y.access,.string ⟨f.name.toArray⟩,.string ⟨f.desc.toArray⟩,.bool y.there,.int .i64 y.stack,.int .i64 y.locals,.slice A1 n1 c1,.slice A2 n2 c2,.slice A3 n3 c3])) w') :
  Calls Tryd.prog 42 #[.pointer (some ⟨gv,0,none⟩),.agg #[.int .i64 (ac:Int),.int .i64 m.name,.int .i64 m.desc,.slice m.A m.n m.c]] w R:=by
 refine(Y0m x b gv m ac w hv hm hac hac2 hl hd).mono ?_
 intro e w' hp;obtain⟨hp,hb⟩:=hp;cases ho:mthK x.p.pool b m.p with
 | none=>rw[ho]at hp;have hp:e = .panicked brkC:=hp;subst hp;exact hno ho _ hb
 | some f=>rw[ho]at hp;obtain⟨y,hy,hmx,rfl⟩:=hp;have h1:y.name=f.name:=congrArg Mth.name hy;have h2:y.desc=f.desc:=congrArg Mth.desc hy;have h3:=hyes f ho w' hb y y.code.A y.hs.A y.fs.A y.code.n y.hs.n y.fs.n y.code.c y.hs.c y.fs.c hy hmx (by unfold mtC;rw[h1,h2];rfl);rw[h1,h2];exact h3
theorem X6k {R:Ending→World→Prop} {x:ImE} {b:Bool} {gv:Nat} {w:World} (m:MmE) (ac:Nat) (hv:Vw w gv x b) (hm:MmB w w.heap.size m) (hac:m.access=(ac:Int)) (hac2:ac<65536) (hl:m.n≤100000000)
  (hno:fldK x.p.pool b m.p=none→∀w',Below w.heap.size w w'→R (.panicked brkC) w')
  (hyes:∀f,fldK x.p.pool b m.p=some f→∀w',Below w.heap.size w w'→R (.returned (.agg #[.int .i64 f.access,.string ⟨f.name.toArray⟩,.string ⟨f.desc.toArray⟩,.int .i64 f.const])) w') :
  Calls Tryd.prog 41 #[.pointer (some ⟨gv,0,none⟩),.agg #[.int .i64 (ac:Int),.int .i64 m.name,.int .i64 m.desc,.slice m.A m.n m.c]] w R:=by
 refine(X8l x b gv m ac w hv hm hac hac2 hl).mono ?_
 intro e w' hp;obtain⟨hp,hb⟩:=hp;cases ho:fldK x.p.pool b m.p with
 | none=>rw[ho]at hp;have hp:e = .panicked brkC:=hp;subst hp;exact hno ho _ hb
 | some f=>rw[ho]at hp;have hp:e = .returned (.agg #[.int .i64 f.access,strQ f.name,strQ f.desc,.int .i64 f.const]):=hp;subst hp;exact hyes f ho _ hb
structure ImR (x:ImE):Prop where
 pn:x.pn≤100000000
 b:∀c∈x.pool,c.tag=9∨c.tag=10∨c.tag=11→0≤c.b∧c.b<x.pool.length
 ac:0≤x.access∧x.access<65536
 i_n:x.i_n≤100000000
 fs:x.fn≤100000000∧∀m∈x.fs,0≤m.access∧m.access<65536∧m.n≤100000000∧∀a∈m.L,(a.s.n:Int)≤140737488355328
 ms:x.mn≤100000000∧∀m∈x.ms,0≤m.access∧m.access<65536∧m.n≤100000000∧∀a∈m.L,(a.s.n:Int)≤140737488355328
theorem X5r (x:ImE) (gv:Nat) (w:World) (hv:Vw w gv x false) (hi:ImR x) :
  Calls Tryd.prog 17 #[.pointer (some ⟨gv,0,none⟩)] w (KrdP w gv x.p.pool (readK x.p)):=by
 obtain⟨R,hR⟩:∃R,readK x.p=R:=⟨_,rfl⟩;rw[hR];have HR:=bx hR;have HI:=bx hi;have Kj:Bx (Vw (w.alloc (.cells z7 27)) gv x false):=bx (hv.below (Y9z (Below.refl _ w) (Z00 _) _));have Tm:Bx (gv<w.heap.size):=bx hv.lt;have Yh:Bx (∀wq,R=none→Ch w wq (OneR gv)→KrdP w gv x.p.pool R (.panicked brkC) wq):=bx (fun wq h c=>by rw[h];exact⟨rfl,c⟩);clear hv hR hi
 go_enter Tryd.func17,Tryd.ntmps17
 go_upto_region 1 with(fail)
 obtain⟨w1,hw1⟩:∃w1,w.alloc (.cells z7 27)=w1:=⟨_,rfl⟩;obtain⟨g2,hg2⟩:∃g2,w.heap.size=g2:=⟨_,rfl⟩;have Yz:=Bk.new w 27 z7;have Zt:Ch w (w.alloc (.cells z7 27)) (OneR gv):=(Ch.refl w).alloc _;rw[hw1]at Kj Zt;rw[hw1,hg2]at Yz;have hw1':w.alloc (.cells #[.int .i64 0,.string ⟨#[]⟩,.string ⟨#[]⟩,.slice none 0 0,.slice none 0 0,.slice none 0 0,.slice none 0 0] 27)=w1:=hw1;rw[hw1',hg2];have Zc:Bx (w.heap.size≤g2):=bx (Z32 hg2);have Yz:=bx Yz;have Zt:=bx Zt;clear hw1 hw1' hg2;go_wp2_with fail
 refine(Y4r x false gv w1 Kj.out HI.out.pn HI.out.b).mono ?_
 rintro e w2 ⟨rfl,hb2⟩;have Ns:=bx (Kj.out.below hb2);have Zj:=bx (Yz.out.below hb2 Yz.out.lt);have Yr:=bx (Zt.out.trans (Ch.of_below (S:=OneR gv) hb2) (fun _ _ e=>e));clear hb2 Kj Yz Zt;obtain⟨q,hq⟩:∃q,poolK x.p.pool=q:=⟨_,rfl⟩;rw[hq];have HQ:=bx hq;clear hq;cases q with
 | false=>have HX:Bx (R=none):=bx (by rw[←HR.out];unfold readK;rw[HQ.out];rfl);go_wp2;exact⟨rfl,Yh.out _ HX.out Yr.out⟩
 | true=>
 have Wx:Bx (R=((plainK x.p.pool x.p.this).bind fun nm=>gdK (bitsK x.p.access.toNat 1585) (
   let iface:=decide (x.p.access.toNat &&& 512≠0)
   gdK (!iface||decide (x.p.access.toNat &&& 1024≠0)) (gdK (decide (x.p.access.toNat &&& 1024=0)||decide (x.p.access.toNat &&& 16=0)) (
    (if nm=objN then gdK (decide (x.p.super=0∧x.p.ifaces=[]) && !iface) (some []) else (plainK x.p.pool x.p.super).bind fun s=>gdK (!iface||decide (s=objN)) (some s)).bind fun su=>
     (eachK (plainK x.p.pool) (fun s=>(s,[])) x.p.ifaces []).bind fun ifs=>(eachK (fldK x.p.pool iface) (fun f=>(f.name,f.desc)) x.p.fields []).bind fun fs=>
      (eachK (mthK x.p.pool iface) (fun f=>(f.name,f.desc)) x.p.methods []).map fun ms=>⟨x.p.access,nm,su,ifs,fs,ms⟩))))):=bx (by rw[←HR.out];unfold readK;rw[HQ.out];rfl)
 have Vp:Bx ((([]:List Cst).length+x.pool.length)*48≤140737488355328):=bx (by have h1:=Ns.out.im.pl.1;have h2:=HI.out.pn;simp only[Z13];omega);have s3:w2.drew.cell? ⟨gv,3,none⟩=some (.int .i64 x.access):=(Ns.out.box.cell 3).trans rfl;have s4:w2.drew.cell? ⟨gv,4,none⟩=some (.int .i64 x.this):=(Ns.out.box.cell 4).trans rfl;have s2:w2.drew.cell? ⟨gv,2,none⟩=some (.slice x.pA x.pn x.pc):=(Ns.out.box.cell 2).trans rfl;have Zx:Bx (Vw w2.drew gv x false):=bx (Ns.out.below (below_drewN (Below.refl _ w2) 1));have Zr:Bx (Bk w2.drew g2 27 z7):=bx (Zj.out.drewN 1);have Zn:Bx (Ch w w2.drew (OneR gv)):=bx (Yr.out.drewN 1);clear Ns Zj Yr HR HQ;go_upto_region 2 with(fail)
 go_cut [3] from 18 to 37 (fun v wx=>∃(g5:Nat) (nm:List UInt8) (A7:Option Addr) (n7 c7:Nat),v = .pointer (some ⟨g5,0,none⟩)∧Bx (plainK x.p.pool x.this=some nm∧Vw wx gv x false∧Bk wx g2 27 z7∧Bk wx g5 27 (klA x.access nm [] (.slice none 0 0) (.slice none 0 0) (.slice none 0 0) (.slice A7 n7 c7))∧OwS cstC 5 wx (g2+1) 39 (.slice A7 n7 c7) x.pool∧(Value.slice A7 n7 c7).ownBlock≠some g5∧Ch w wx (OneR gv)∧g2<g5))
 case first=>
  -- DEV{
  refine Y9x (S:=fun w'=>w'.cell? ⟨gv,3,none⟩=some (.int .i64 x.access)∧w'.cell? ⟨gv,4,none⟩=some (.int .i64 x.this)∧w'.cell? ⟨gv,2,none⟩=some (.slice x.pA x.pn x.pc)) (.tk 0 (.tk 1 (.tk 2 (.tk 3 (.tk 4 (.tk 5 (.tk 6 (.tk 7 (.tk 8 (.tk 9 (.tk 10 (.tk 13 (.tk 14 (.tk 15 (.tk 16 (.tk 17 (.alt 11 (.alt 12 (.alt 18 (.tk 19 (.rn 20 (.rn 21 .fin))) (.rn 20 (.rn 18 (.tk 19 (.rn 21 .fin))))) (.rn 20 (.rn 12 (.rn 18 (.tk 19 (.rn 21 .fin)))))) (.alt 12 (.alt 11 (.alt 18 (.tk 19 (.rn 20 (.rn 21 .fin))) (.rn 20 (.rn 18 (.tk 19 (.rn 21 .fin))))) (.rn 20 (.rn 11 (.rn 18 (.tk 19 (.rn 21 .fin)))))) (.rn 20 (.alt 11 (.rn 12 (.rn 18 (.tk 19 (.rn 21 .fin)))) (.rn 12 (.rn 11 (.rn 18 (.tk 19 (.rn 21 .fin))))))))))))))))))))))))) (by kernel_rfl) (by kernel_rfl) (by kernel_rfl) (fun _ _ _ _ h=>h) ⟨s3,s4,s2⟩ ?_;generalize w2.drew=y0 at Zx Zr Zn ⊢
  iterate 16 (apply SeqW.take;(· rfl);(· (refine Or.inl ⟨?_,?_⟩;(· rfl);(· (intro w hSw;(try dsimp only at hSw);go_simp <;> with_reducible rfl))));simp only[Act.put,Z01,Z02,Z03,Z06,Z04,Z05])
  refine SeqW.both rfl (fun K hK hP=>?_) ?_
  ·go_wp2_with fail
   refine Y8m (x:=x) (b:=false) x.this Zx.out ?_ ?_
   ·intro h wq hb
    go_wp2;refine hP.out _ _ _ ?_;exact⟨rfl,Yh.out _ (by rw[Wx.out];show (plainK x.p.pool x.this).bind _=none;rw[h];rfl) (Zn.out.trans (Ch.of_below (S:=OneR gv) hb) (fun _ _ e=>e))⟩
   intro nm hs y1 hb;have HT:=bx hs;have HVq_:=bx (Zx.out.below hb);have HKq_:=bx (Zr.out.below hb Zr.out.lt);have HCq_:=bx (Zn.out.trans (Ch.of_below (S:=OneR gv) hb) (fun _ _ e=>e));clear Zx Zr Zn;have Zx:=HVq_;have Zr:=HKq_;have Zn:=HCq_;clear HVq_ HKq_ HCq_;clear hs hb;go_wp2;refine hK.out _ _ ⟨(Zx.out.box.cell 3).trans rfl,(Zx.out.box.cell 4).trans rfl,(Zx.out.box.cell 2).trans rfl⟩ ?_;clear hK hP K;refine SeqW.both rfl (fun K hK hP=>?_) ?_
   ·go_wp2_with fail
    have hb:=Y9z (Below.refl y1.heap.size y1) (Z00 _) (.cells #[] 39);have HVq_:=bx (Zx.out.below hb);have HKq_:=bx (Zr.out.below hb Zr.out.lt);have HCq_:=bx (Zn.out.trans (Ch.of_below (S:=OneR gv) hb) (fun _ _ e=>e));have HNW_:=OwS.lit0 (fC:=cstC) (sz:=5) (B:=g2+1) (e:=39) y1 Zr.out.lt;have hgl:=Zr.out.lt;obtain⟨gz,hg⟩:∃gz,y1.heap.size=gz:=⟨_,rfl⟩;obtain⟨y2,hw⟩:∃y2,y1.alloc (.cells #[] 39)=y2:=⟨_,rfl⟩;rw[hg,hw];rw[hw]at HVq_ HKq_ HCq_ HNW_;rw[hg]at HNW_ hgl;have Xf:Bx (g2<gz):=bx hgl;clear hb hg hw hgl;clear Zx Zr Zn;have Zx:=HVq_;have Zr:=HKq_;have Zn:=HCq_;clear HVq_ HKq_ HCq_;have Zg:=bx HNW_;clear HNW_;refine hK.out _ _ ⟨(Zx.out.box.cell 3).trans rfl,(Zx.out.box.cell 4).trans rfl,(Zx.out.box.cell 2).trans rfl⟩ ?_;clear hK hP K;refine SeqW.both rfl (fun K hK hP=>?_) ?_
    ·have hz:g2+1≤y2.heap.size:=Zr.out.lt
     refine Y9y _ cstCels rfl (.tmp 30) (.tmp 35) rfl cstTy (by decide) (g2+1) (.slice (some ⟨gz,0,none⟩) 0 0) [] rfl Zg.out gv x.pA x.pn x.pc x.pool rfl Zx.out.im.pl.1 Zx.out.im.pool Vp.out hz ?_;intro V7 y3 hO hg hv _;refine wpList_nil ?_;have hch:Ch y2 y3 (OneR gz):=Ch.of_grown hg (fun k e=>by injection e with e;exact e.symm);have HVq_:=bx (Zx.out.far hch (fun k hk e=>by have e:k=gz:=e;have:=Xf.out;have:=Tm.out;have:=Zc.out;omega));have HKq_:=bx (Zr.out.ch hch (fun e=>by have e:g2=gz:=e;have:=Xf.out;omega));have HCq_:=bx (Zn.out.trans hch (fun k hk e=>by have e:k=gz:=e;have:=Xf.out;have:=Zc.out;omega));have hO2:=hO;rw[Z28]at hO2;obtain⟨A7,c7,e7,_,_⟩:=hO2.rd;obtain⟨n7,hn7⟩:∃n7,x.pool.length=n7:=⟨_,rfl⟩;rw[hn7]at e7;subst e7;have Xs:=bx hO2;clear Zg hO hO2 hg hv hch hz hn7 Zx Zr Zn;have Zx:=HVq_;have Zr:=HKq_;have Zn:=HCq_;clear HVq_ HKq_ HCq_;refine hK.out _ _ ⟨(Zx.out.box.cell 3).trans rfl,(Zx.out.box.cell 4).trans rfl,(Zx.out.box.cell 2).trans rfl⟩ ?_;clear hK hP K;simp only[Act.put,Z01,Z02,Z03,Z06,Z04,Z05]
     iterate 1 (apply SeqW.take;(· rfl);(· (refine Or.inl ⟨?_,?_⟩;(· rfl);(· (intro w hSw;(try dsimp only at hSw);go_simp <;> with_reducible rfl))));simp only[Act.put,Z01,Z02,Z03,Z06,Z04,Z05])
     refine SeqW.run rfl (fun K hK hP=>?_);go_wp2_with fail
     have hb:=Y9z (Below.refl y3.heap.size y3) (Z00 _) (.cells #[.int .i64 0,.string ⟨#[]⟩,.string ⟨#[]⟩,.slice none 0 0,.slice none 0 0,.slice none 0 0,.slice none 0 0] 27);have HVq_:=bx (Zx.out.below hb);have HKq_:=bx (Zr.out.below hb Zr.out.lt);have HCq_:=bx (Zn.out.trans (Ch.of_below (S:=OneR gv) hb) (fun _ _ e=>e));have H18_:=bx (Xs.out.step hb);have HNW_:=Bk.new y3 27 #[.int .i64 0,.string ⟨#[]⟩,.string ⟨#[]⟩,.slice none 0 0,.slice none 0 0,.slice none 0 0,.slice none 0 0];have hgl:=Zr.out.lt;have hol:∀q,(Value.slice A7 n7 c7).ownBlock=some q→q<y3.heap.size:=fun q e=>(Xs.out.blk e).2;obtain⟨g5,hg⟩:∃g5,y3.heap.size=g5:=⟨_,rfl⟩;obtain⟨y4,hw⟩:∃y4,y3.alloc (.cells #[.int .i64 0,.string ⟨#[]⟩,.string ⟨#[]⟩,.slice none 0 0,.slice none 0 0,.slice none 0 0,.slice none 0 0] 27)=y4:=⟨_,rfl⟩;rw[hg,hw];rw[hw]at HVq_ HKq_ HCq_ H18_ HNW_;rw[hg]at HNW_ hgl hol;have Yq:Bx (g2<g5):=bx hgl;have Vz:Bx ((Value.slice A7 n7 c7).ownBlock≠some g5):=bx (fun e=>by have:=hol g5 e;omega);clear hb hg hw hgl hol;clear Zx Zr Zn Xs;have Zx:=HVq_;have Zr:=HKq_;have Zn:=HCq_;have Xs:=H18_;clear HVq_ HKq_ HCq_ H18_;have Ze:=bx HNW_;clear HNW_;refine hK.out _ _ ⟨(Zx.out.box.cell 3).trans rfl,(Zx.out.box.cell 4).trans rfl,(Zx.out.box.cell 2).trans rfl⟩ ?_;clear hK hP K;refine SeqW.run rfl (fun K hK hP=>?_);refine wpList_store_row rfl 27 (.tmp 3) (.tmp 37) rfl g5 (klA x.access nm [] (.slice none 0 0) (.slice none 0 0) (.slice none 0 0) (.slice A7 n7 c7)) rfl rfl 27 z7 Ze.out Y9h rfl (Y6n _ _ _ _ _ _ _ _ _ _ _ _ _ _ _) ?_;refine wpList_nil ?_;have hch:=Y9t y4 g5 (klA x.access nm [] (.slice none 0 0) (.slice none 0 0) (.slice none 0 0) (.slice A7 n7 c7));have H20_:=bx (Ze.out.setRow (klA x.access nm [] (.slice none 0 0) (.slice none 0 0) (.slice none 0 0) (.slice A7 n7 c7)));have HVq_:=bx (Zx.out.far hch (fun k hk e=>by have e:k=g5:=e;have:=Yq.out;have:=Tm.out;have:=Zc.out;omega));have HKq_:=bx (Zr.out.ch hch (fun e=>by have e:g2=g5:=e;have:=Yq.out;omega));have HCq_:=bx (Zn.out.trans hch (fun k hk e=>by have e:k=g5:=e;have:=Yq.out;have:=Zc.out;omega));have H18_:=bx (OwS.kept Xs.out (Y8r hch) (.inr Vz.out));clear hch Zx Zr Zn Xs Ze;have Zx:=HVq_;have Zr:=HKq_;have Zn:=HCq_;have Xs:=H18_;have Ze:=H20_;clear HVq_ HKq_ HCq_ H18_ H20_;refine hK.out _ _ ⟨(Zx.out.box.cell 3).trans rfl,(Zx.out.box.cell 4).trans rfl,(Zx.out.box.cell 2).trans rfl⟩ ?_;clear hK hP K;refine SeqW.done ?_;simp only[Act.put,Z01,Z02,Z03];go_wp2
     go_meet
     exact⟨g5,nm,A7,n7,c7,rfl,bx ⟨HT.out,Zx.out,Zr.out,Ze.out,Xs.out,Vz.out,Zn.out,Yq.out⟩⟩
    ·refine SeqW.run rfl (fun K hK hP=>?_)
     go_wp2_with fail
     have hb:=Y9z (Below.refl y2.heap.size y2) (Z00 _) (.cells #[.int .i64 0,.string ⟨#[]⟩,.string ⟨#[]⟩,.slice none 0 0,.slice none 0 0,.slice none 0 0,.slice none 0 0] 27);have HVq_:=bx (Zx.out.below hb);have HKq_:=bx (Zr.out.below hb Zr.out.lt);have HCq_:=bx (Zn.out.trans (Ch.of_below (S:=OneR gv) hb) (fun _ _ e=>e));have H12_:=bx (Zg.out.step hb);have HNW_:=Bk.new y2 27 #[.int .i64 0,.string ⟨#[]⟩,.string ⟨#[]⟩,.slice none 0 0,.slice none 0 0,.slice none 0 0,.slice none 0 0];have hgl:=Zr.out.lt;have hol:gz<y2.heap.size:=(Zg.out.blk (g:=gz) rfl).2;obtain⟨g5,hg⟩:∃g5,y2.heap.size=g5:=⟨_,rfl⟩;obtain⟨y6,hw⟩:∃y6,y2.alloc (.cells #[.int .i64 0,.string ⟨#[]⟩,.string ⟨#[]⟩,.slice none 0 0,.slice none 0 0,.slice none 0 0,.slice none 0 0] 27)=y6:=⟨_,rfl⟩;rw[hg,hw];rw[hw]at HVq_ HKq_ HCq_ H12_ HNW_;rw[hg]at HNW_ hgl hol;have Yq:Bx (g2<g5):=bx hgl;have Wy:Bx (gz≠g5):=bx (by omega);clear hb hg hw hgl hol;clear Zx Zr Zn Zg;have Zx:=HVq_;have Zr:=HKq_;have Zn:=HCq_;have Zg:=H12_;clear HVq_ HKq_ HCq_ H12_;have Ze:=bx HNW_;clear HNW_;refine hK.out _ _ ⟨(Zx.out.box.cell 3).trans rfl,(Zx.out.box.cell 4).trans rfl,(Zx.out.box.cell 2).trans rfl⟩ ?_;clear hK hP K;refine SeqW.run rfl (fun K hK hP=>?_);have hz:g2+1≤y6.heap.size:=Zr.out.lt;refine Y9y _ cstCels rfl (.tmp 30) (.tmp 35) rfl cstTy (by decide) (g2+1) (.slice (some ⟨gz,0,none⟩) 0 0) [] rfl Zg.out gv x.pA x.pn x.pc x.pool rfl Zx.out.im.pl.1 Zx.out.im.pool Vp.out hz ?_;intro V7 y7 hO hg hv _;refine wpList_nil ?_;have hch:Ch y6 y7 (OneR gz):=Ch.of_grown hg (fun k e=>by injection e with e;exact e.symm);have HVq_:=bx (Zx.out.far hch (fun k hk e=>by have e:k=gz:=e;have:=Xf.out;have:=Tm.out;have:=Zc.out;omega));have HKq_:=bx (Zr.out.ch hch (fun e=>by have e:g2=gz:=e;have:=Xf.out;omega));have HCq_:=bx (Zn.out.trans hch (fun k hk e=>by have e:k=gz:=e;have:=Xf.out;have:=Zc.out;omega));have H20_:=bx (Ze.out.ch hch (fun e=>Wy.out (show g5=gz from e).symm));have hO2:=hO;rw[Z28]at hO2;obtain⟨A7,c7,e7,_,_⟩:=hO2.rd;obtain⟨n7,hn7⟩:∃n7,x.pool.length=n7:=⟨_,rfl⟩;rw[hn7]at e7;subst e7;have Xs:=bx hO2
     have Vz:Bx ((Value.slice A7 n7 c7).ownBlock≠some g5):=bx (fun e=>by
      have h1:=Ze.out.lt;rcases hv with h | h
      ·rw[h]at e;injection e with e;exact Wy.out e
      ·rw[h]at e;injection e with e;omega)
     clear Zg hO hO2 hg hv hch hz hn7 Zx Zr Zn Ze;have Zx:=HVq_;have Zr:=HKq_;have Zn:=HCq_;have Ze:=H20_;clear HVq_ HKq_ HCq_ H20_;refine hK.out _ _ ⟨(Zx.out.box.cell 3).trans rfl,(Zx.out.box.cell 4).trans rfl,(Zx.out.box.cell 2).trans rfl⟩ ?_;clear hK hP K;simp only[Act.put,Z01,Z02,Z03,Z06,Z04,Z05]
     iterate 1 (apply SeqW.take;(· rfl);(· (refine Or.inl ⟨?_,?_⟩;(· rfl);(· (intro w hSw;(try dsimp only at hSw);go_simp <;> with_reducible rfl))));simp only[Act.put,Z01,Z02,Z03,Z06,Z04,Z05])
     refine SeqW.run rfl (fun K hK hP=>?_);refine wpList_store_row rfl 27 (.tmp 3) (.tmp 37) rfl g5 (klA x.access nm [] (.slice none 0 0) (.slice none 0 0) (.slice none 0 0) (.slice A7 n7 c7)) rfl rfl 27 z7 Ze.out Y9h rfl (Y6n _ _ _ _ _ _ _ _ _ _ _ _ _ _ _) ?_;refine wpList_nil ?_;have hch:=Y9t y7 g5 (klA x.access nm [] (.slice none 0 0) (.slice none 0 0) (.slice none 0 0) (.slice A7 n7 c7));have H20_:=bx (Ze.out.setRow (klA x.access nm [] (.slice none 0 0) (.slice none 0 0) (.slice none 0 0) (.slice A7 n7 c7)));have HVq_:=bx (Zx.out.far hch (fun k hk e=>by have e:k=g5:=e;have:=Yq.out;have:=Tm.out;have:=Zc.out;omega));have HKq_:=bx (Zr.out.ch hch (fun e=>by have e:g2=g5:=e;have:=Yq.out;omega));have HCq_:=bx (Zn.out.trans hch (fun k hk e=>by have e:k=g5:=e;have:=Yq.out;have:=Zc.out;omega));have H18_:=bx (OwS.kept Xs.out (Y8r hch) (.inr Vz.out));clear hch Zx Zr Zn Xs Ze;have Zx:=HVq_;have Zr:=HKq_;have Zn:=HCq_;have Xs:=H18_;have Ze:=H20_;clear HVq_ HKq_ HCq_ H18_ H20_;refine hK.out _ _ ⟨(Zx.out.box.cell 3).trans rfl,(Zx.out.box.cell 4).trans rfl,(Zx.out.box.cell 2).trans rfl⟩ ?_;clear hK hP K;refine SeqW.done ?_;simp only[Act.put,Z01,Z02,Z03];go_wp2
     go_meet
     exact⟨g5,nm,A7,n7,c7,rfl,bx ⟨HT.out,Zx.out,Zr.out,Ze.out,Xs.out,Vz.out,Zn.out,Yq.out⟩⟩
   ·refine SeqW.run rfl (fun K hK hP=>?_)
    go_wp2_with fail
    have hb:=Y9z (Below.refl y1.heap.size y1) (Z00 _) (.cells #[.int .i64 0,.string ⟨#[]⟩,.string ⟨#[]⟩,.slice none 0 0,.slice none 0 0,.slice none 0 0,.slice none 0 0] 27);have HVq_:=bx (Zx.out.below hb);have HKq_:=bx (Zr.out.below hb Zr.out.lt);have HCq_:=bx (Zn.out.trans (Ch.of_below (S:=OneR gv) hb) (fun _ _ e=>e));have HNW_:=Bk.new y1 27 #[.int .i64 0,.string ⟨#[]⟩,.string ⟨#[]⟩,.slice none 0 0,.slice none 0 0,.slice none 0 0,.slice none 0 0];have hgl:=Zr.out.lt;obtain⟨g5,hg⟩:∃g5,y1.heap.size=g5:=⟨_,rfl⟩;obtain⟨y9,hw⟩:∃y9,y1.alloc (.cells #[.int .i64 0,.string ⟨#[]⟩,.string ⟨#[]⟩,.slice none 0 0,.slice none 0 0,.slice none 0 0,.slice none 0 0] 27)=y9:=⟨_,rfl⟩;rw[hg,hw];rw[hw]at HVq_ HKq_ HCq_ HNW_;rw[hg]at HNW_ hgl;have Yq:Bx (g2<g5):=bx hgl;clear hb hg hw hgl;clear Zx Zr Zn;have Zx:=HVq_;have Zr:=HKq_;have Zn:=HCq_;clear HVq_ HKq_ HCq_;have Ze:=bx HNW_;clear HNW_;refine hK.out _ _ ⟨(Zx.out.box.cell 3).trans rfl,(Zx.out.box.cell 4).trans rfl,(Zx.out.box.cell 2).trans rfl⟩ ?_;clear hK hP K;refine SeqW.run rfl (fun K hK hP=>?_);go_wp2_with fail
    have hb:=Y9z (Below.refl y9.heap.size y9) (Z00 _) (.cells #[] 39);have HVq_:=bx (Zx.out.below hb);have HKq_:=bx (Zr.out.below hb Zr.out.lt);have HCq_:=bx (Zn.out.trans (Ch.of_below (S:=OneR gv) hb) (fun _ _ e=>e));have H20_:=bx (Ze.out.below hb Ze.out.lt);have HNW_:=OwS.lit0 (fC:=cstC) (sz:=5) (B:=g2+1) (e:=39) y9 Zr.out.lt;have hgl:=Zr.out.lt;have hol:g5<y9.heap.size:=Ze.out.lt;obtain⟨gz,hg⟩:∃gz,y9.heap.size=gz:=⟨_,rfl⟩;obtain⟨y10,hw⟩:∃y10,y9.alloc (.cells #[] 39)=y10:=⟨_,rfl⟩;rw[hg,hw];rw[hw]at HVq_ HKq_ HCq_ H20_ HNW_;rw[hg]at HNW_ hgl hol;have Xf:Bx (g2<gz):=bx hgl;have Wy:Bx (gz≠g5):=bx (by omega);clear hb hg hw hgl hol;clear Zx Zr Zn Ze;have Zx:=HVq_;have Zr:=HKq_;have Zn:=HCq_;have Ze:=H20_;clear HVq_ HKq_ HCq_ H20_;have Zg:=bx HNW_;clear HNW_;refine hK.out _ _ ⟨(Zx.out.box.cell 3).trans rfl,(Zx.out.box.cell 4).trans rfl,(Zx.out.box.cell 2).trans rfl⟩ ?_;clear hK hP K;refine SeqW.run rfl (fun K hK hP=>?_);have hz:g2+1≤y10.heap.size:=Zr.out.lt;refine Y9y _ cstCels rfl (.tmp 30) (.tmp 35) rfl cstTy (by decide) (g2+1) (.slice (some ⟨gz,0,none⟩) 0 0) [] rfl Zg.out gv x.pA x.pn x.pc x.pool rfl Zx.out.im.pl.1 Zx.out.im.pool Vp.out hz ?_;intro V7 y11 hO hg hv _;refine wpList_nil ?_;have hch:Ch y10 y11 (OneR gz):=Ch.of_grown hg (fun k e=>by injection e with e;exact e.symm);have HVq_:=bx (Zx.out.far hch (fun k hk e=>by have e:k=gz:=e;have:=Xf.out;have:=Tm.out;have:=Zc.out;omega));have HKq_:=bx (Zr.out.ch hch (fun e=>by have e:g2=gz:=e;have:=Xf.out;omega));have HCq_:=bx (Zn.out.trans hch (fun k hk e=>by have e:k=gz:=e;have:=Xf.out;have:=Zc.out;omega));have H20_:=bx (Ze.out.ch hch (fun e=>Wy.out (show g5=gz from e).symm));have hO2:=hO;rw[Z28]at hO2;obtain⟨A7,c7,e7,_,_⟩:=hO2.rd;obtain⟨n7,hn7⟩:∃n7,x.pool.length=n7:=⟨_,rfl⟩;rw[hn7]at e7;subst e7;have Xs:=bx hO2
    have Vz:Bx ((Value.slice A7 n7 c7).ownBlock≠some g5):=bx (fun e=>by
     have h1:=Ze.out.lt;rcases hv with h | h
     ·rw[h]at e;injection e with e;exact Wy.out e
     ·rw[h]at e;injection e with e;omega)
    clear Zg hO hO2 hg hv hch hz hn7 Zx Zr Zn Ze;have Zx:=HVq_;have Zr:=HKq_;have Zn:=HCq_;have Ze:=H20_;clear HVq_ HKq_ HCq_ H20_;refine hK.out _ _ ⟨(Zx.out.box.cell 3).trans rfl,(Zx.out.box.cell 4).trans rfl,(Zx.out.box.cell 2).trans rfl⟩ ?_;clear hK hP K;simp only[Act.put,Z01,Z02,Z03,Z06,Z04,Z05]
    iterate 1 (apply SeqW.take;(· rfl);(· (refine Or.inl ⟨?_,?_⟩;(· rfl);(· (intro w hSw;(try dsimp only at hSw);go_simp <;> with_reducible rfl))));simp only[Act.put,Z01,Z02,Z03,Z06,Z04,Z05])
    refine SeqW.run rfl (fun K hK hP=>?_);refine wpList_store_row rfl 27 (.tmp 3) (.tmp 37) rfl g5 (klA x.access nm [] (.slice none 0 0) (.slice none 0 0) (.slice none 0 0) (.slice A7 n7 c7)) rfl rfl 27 z7 Ze.out Y9h rfl (Y6n _ _ _ _ _ _ _ _ _ _ _ _ _ _ _) ?_;refine wpList_nil ?_;have hch:=Y9t y11 g5 (klA x.access nm [] (.slice none 0 0) (.slice none 0 0) (.slice none 0 0) (.slice A7 n7 c7));have H20_:=bx (Ze.out.setRow (klA x.access nm [] (.slice none 0 0) (.slice none 0 0) (.slice none 0 0) (.slice A7 n7 c7)));have HVq_:=bx (Zx.out.far hch (fun k hk e=>by have e:k=g5:=e;have:=Yq.out;have:=Tm.out;have:=Zc.out;omega));have HKq_:=bx (Zr.out.ch hch (fun e=>by have e:g2=g5:=e;have:=Yq.out;omega));have HCq_:=bx (Zn.out.trans hch (fun k hk e=>by have e:k=g5:=e;have:=Yq.out;have:=Zc.out;omega));have H18_:=bx (OwS.kept Xs.out (Y8r hch) (.inr Vz.out));clear hch Zx Zr Zn Xs Ze;have Zx:=HVq_;have Zr:=HKq_;have Zn:=HCq_;have Xs:=H18_;have Ze:=H20_;clear HVq_ HKq_ HCq_ H18_ H20_;refine hK.out _ _ ⟨(Zx.out.box.cell 3).trans rfl,(Zx.out.box.cell 4).trans rfl,(Zx.out.box.cell 2).trans rfl⟩ ?_;clear hK hP K;refine SeqW.done ?_;simp only[Act.put,Z01,Z02,Z03];go_wp2
    go_meet
    exact⟨g5,nm,A7,n7,c7,rfl,bx ⟨HT.out,Zx.out,Zr.out,Ze.out,Xs.out,Vz.out,Zn.out,Yq.out⟩⟩
  ·refine SeqW.both rfl (fun K hK hP=>?_) ?_
   ·go_wp2_with fail
    have hb:=Y9z (Below.refl y0.heap.size y0) (Z00 _) (.cells #[] 39);have HVq_:=bx (Zx.out.below hb);have HKq_:=bx (Zr.out.below hb Zr.out.lt);have HCq_:=bx (Zn.out.trans (Ch.of_below (S:=OneR gv) hb) (fun _ _ e=>e));have HNW_:=OwS.lit0 (fC:=cstC) (sz:=5) (B:=g2+1) (e:=39) y0 Zr.out.lt;have hgl:=Zr.out.lt;obtain⟨gz,hg⟩:∃gz,y0.heap.size=gz:=⟨_,rfl⟩;obtain⟨y13,hw⟩:∃y13,y0.alloc (.cells #[] 39)=y13:=⟨_,rfl⟩;rw[hg,hw];rw[hw]at HVq_ HKq_ HCq_ HNW_;rw[hg]at HNW_ hgl;have Xf:Bx (g2<gz):=bx hgl;clear hb hg hw hgl;clear Zx Zr Zn;have Zx:=HVq_;have Zr:=HKq_;have Zn:=HCq_;clear HVq_ HKq_ HCq_;have Zg:=bx HNW_;clear HNW_;refine hK.out _ _ ⟨(Zx.out.box.cell 3).trans rfl,(Zx.out.box.cell 4).trans rfl,(Zx.out.box.cell 2).trans rfl⟩ ?_;clear hK hP K;refine SeqW.both rfl (fun K hK hP=>?_) ?_
    ·go_wp2_with fail
     refine Y8m (x:=x) (b:=false) x.this Zx.out ?_ ?_
     ·intro h wq hb
      go_wp2;refine hP.out _ _ _ ?_;exact⟨rfl,Yh.out _ (by rw[Wx.out];show (plainK x.p.pool x.this).bind _=none;rw[h];rfl) (Zn.out.trans (Ch.of_below (S:=OneR gv) hb) (fun _ _ e=>e))⟩
     intro nm hs y14 hb;have HT:=bx hs;have HVq_:=bx (Zx.out.below hb);have HKq_:=bx (Zr.out.below hb Zr.out.lt);have HCq_:=bx (Zn.out.trans (Ch.of_below (S:=OneR gv) hb) (fun _ _ e=>e));have H12_:=bx (Zg.out.step hb);clear Zx Zr Zn Zg;have Zx:=HVq_;have Zr:=HKq_;have Zn:=HCq_;have Zg:=H12_;clear HVq_ HKq_ HCq_ H12_;clear hs hb;go_wp2;refine hK.out _ _ ⟨(Zx.out.box.cell 3).trans rfl,(Zx.out.box.cell 4).trans rfl,(Zx.out.box.cell 2).trans rfl⟩ ?_;clear hK hP K;refine SeqW.both rfl (fun K hK hP=>?_) ?_
     ·have hz:g2+1≤y14.heap.size:=Zr.out.lt
      refine Y9y _ cstCels rfl (.tmp 30) (.tmp 35) rfl cstTy (by decide) (g2+1) (.slice (some ⟨gz,0,none⟩) 0 0) [] rfl Zg.out gv x.pA x.pn x.pc x.pool rfl Zx.out.im.pl.1 Zx.out.im.pool Vp.out hz ?_;intro V7 y15 hO hg hv _;refine wpList_nil ?_;have hch:Ch y14 y15 (OneR gz):=Ch.of_grown hg (fun k e=>by injection e with e;exact e.symm);have HVq_:=bx (Zx.out.far hch (fun k hk e=>by have e:k=gz:=e;have:=Xf.out;have:=Tm.out;have:=Zc.out;omega));have HKq_:=bx (Zr.out.ch hch (fun e=>by have e:g2=gz:=e;have:=Xf.out;omega));have HCq_:=bx (Zn.out.trans hch (fun k hk e=>by have e:k=gz:=e;have:=Xf.out;have:=Zc.out;omega));have hO2:=hO;rw[Z28]at hO2;obtain⟨A7,c7,e7,_,_⟩:=hO2.rd;obtain⟨n7,hn7⟩:∃n7,x.pool.length=n7:=⟨_,rfl⟩;rw[hn7]at e7;subst e7;have Xs:=bx hO2;clear Zg hO hO2 hg hv hch hz hn7 Zx Zr Zn;have Zx:=HVq_;have Zr:=HKq_;have Zn:=HCq_;clear HVq_ HKq_ HCq_;refine hK.out _ _ ⟨(Zx.out.box.cell 3).trans rfl,(Zx.out.box.cell 4).trans rfl,(Zx.out.box.cell 2).trans rfl⟩ ?_;clear hK hP K;simp only[Act.put,Z01,Z02,Z03,Z06,Z04,Z05]
      iterate 1 (apply SeqW.take;(· rfl);(· (refine Or.inl ⟨?_,?_⟩;(· rfl);(· (intro w hSw;(try dsimp only at hSw);go_simp <;> with_reducible rfl))));simp only[Act.put,Z01,Z02,Z03,Z06,Z04,Z05])
      refine SeqW.run rfl (fun K hK hP=>?_);go_wp2_with fail
      have hb:=Y9z (Below.refl y15.heap.size y15) (Z00 _) (.cells #[.int .i64 0,.string ⟨#[]⟩,.string ⟨#[]⟩,.slice none 0 0,.slice none 0 0,.slice none 0 0,.slice none 0 0] 27);have HVq_:=bx (Zx.out.below hb);have HKq_:=bx (Zr.out.below hb Zr.out.lt);have HCq_:=bx (Zn.out.trans (Ch.of_below (S:=OneR gv) hb) (fun _ _ e=>e));have H18_:=bx (Xs.out.step hb);have HNW_:=Bk.new y15 27 #[.int .i64 0,.string ⟨#[]⟩,.string ⟨#[]⟩,.slice none 0 0,.slice none 0 0,.slice none 0 0,.slice none 0 0];have hgl:=Zr.out.lt;have hol:∀q,(Value.slice A7 n7 c7).ownBlock=some q→q<y15.heap.size:=fun q e=>(Xs.out.blk e).2;obtain⟨g5,hg⟩:∃g5,y15.heap.size=g5:=⟨_,rfl⟩;obtain⟨y16,hw⟩:∃y16,y15.alloc (.cells #[.int .i64 0,.string ⟨#[]⟩,.string ⟨#[]⟩,.slice none 0 0,.slice none 0 0,.slice none 0 0,.slice none 0 0] 27)=y16:=⟨_,rfl⟩;rw[hg,hw];rw[hw]at HVq_ HKq_ HCq_ H18_ HNW_;rw[hg]at HNW_ hgl hol;have Yq:Bx (g2<g5):=bx hgl;have Vz:Bx ((Value.slice A7 n7 c7).ownBlock≠some g5):=bx (fun e=>by have:=hol g5 e;omega);clear hb hg hw hgl hol;clear Zx Zr Zn Xs;have Zx:=HVq_;have Zr:=HKq_;have Zn:=HCq_;have Xs:=H18_;clear HVq_ HKq_ HCq_ H18_;have Ze:=bx HNW_;clear HNW_;refine hK.out _ _ ⟨(Zx.out.box.cell 3).trans rfl,(Zx.out.box.cell 4).trans rfl,(Zx.out.box.cell 2).trans rfl⟩ ?_;clear hK hP K;refine SeqW.run rfl (fun K hK hP=>?_);refine wpList_store_row rfl 27 (.tmp 3) (.tmp 37) rfl g5 (klA x.access nm [] (.slice none 0 0) (.slice none 0 0) (.slice none 0 0) (.slice A7 n7 c7)) rfl rfl 27 z7 Ze.out Y9h rfl (Y6n _ _ _ _ _ _ _ _ _ _ _ _ _ _ _) ?_;refine wpList_nil ?_;have hch:=Y9t y16 g5 (klA x.access nm [] (.slice none 0 0) (.slice none 0 0) (.slice none 0 0) (.slice A7 n7 c7));have H20_:=bx (Ze.out.setRow (klA x.access nm [] (.slice none 0 0) (.slice none 0 0) (.slice none 0 0) (.slice A7 n7 c7)));have HVq_:=bx (Zx.out.far hch (fun k hk e=>by have e:k=g5:=e;have:=Yq.out;have:=Tm.out;have:=Zc.out;omega));have HKq_:=bx (Zr.out.ch hch (fun e=>by have e:g2=g5:=e;have:=Yq.out;omega));have HCq_:=bx (Zn.out.trans hch (fun k hk e=>by have e:k=g5:=e;have:=Yq.out;have:=Zc.out;omega));have H18_:=bx (OwS.kept Xs.out (Y8r hch) (.inr Vz.out));clear hch Zx Zr Zn Xs Ze;have Zx:=HVq_;have Zr:=HKq_;have Zn:=HCq_;have Xs:=H18_;have Ze:=H20_;clear HVq_ HKq_ HCq_ H18_ H20_;refine hK.out _ _ ⟨(Zx.out.box.cell 3).trans rfl,(Zx.out.box.cell 4).trans rfl,(Zx.out.box.cell 2).trans rfl⟩ ?_;clear hK hP K;refine SeqW.done ?_;simp only[Act.put,Z01,Z02,Z03];go_wp2
      go_meet
      exact⟨g5,nm,A7,n7,c7,rfl,bx ⟨HT.out,Zx.out,Zr.out,Ze.out,Xs.out,Vz.out,Zn.out,Yq.out⟩⟩
     ·refine SeqW.run rfl (fun K hK hP=>?_)
      go_wp2_with fail
      have hb:=Y9z (Below.refl y14.heap.size y14) (Z00 _) (.cells #[.int .i64 0,.string ⟨#[]⟩,.string ⟨#[]⟩,.slice none 0 0,.slice none 0 0,.slice none 0 0,.slice none 0 0] 27);have HVq_:=bx (Zx.out.below hb);have HKq_:=bx (Zr.out.below hb Zr.out.lt);have HCq_:=bx (Zn.out.trans (Ch.of_below (S:=OneR gv) hb) (fun _ _ e=>e));have H12_:=bx (Zg.out.step hb);have HNW_:=Bk.new y14 27 #[.int .i64 0,.string ⟨#[]⟩,.string ⟨#[]⟩,.slice none 0 0,.slice none 0 0,.slice none 0 0,.slice none 0 0];have hgl:=Zr.out.lt;have hol:gz<y14.heap.size:=(Zg.out.blk (g:=gz) rfl).2;obtain⟨g5,hg⟩:∃g5,y14.heap.size=g5:=⟨_,rfl⟩;obtain⟨y18,hw⟩:∃y18,y14.alloc (.cells #[.int .i64 0,.string ⟨#[]⟩,.string ⟨#[]⟩,.slice none 0 0,.slice none 0 0,.slice none 0 0,.slice none 0 0] 27)=y18:=⟨_,rfl⟩;rw[hg,hw];rw[hw]at HVq_ HKq_ HCq_ H12_ HNW_;rw[hg]at HNW_ hgl hol;have Yq:Bx (g2<g5):=bx hgl;have Wy:Bx (gz≠g5):=bx (by omega);clear hb hg hw hgl hol;clear Zx Zr Zn Zg;have Zx:=HVq_;have Zr:=HKq_;have Zn:=HCq_;have Zg:=H12_;clear HVq_ HKq_ HCq_ H12_;have Ze:=bx HNW_;clear HNW_;refine hK.out _ _ ⟨(Zx.out.box.cell 3).trans rfl,(Zx.out.box.cell 4).trans rfl,(Zx.out.box.cell 2).trans rfl⟩ ?_;clear hK hP K;refine SeqW.run rfl (fun K hK hP=>?_);have hz:g2+1≤y18.heap.size:=Zr.out.lt;refine Y9y _ cstCels rfl (.tmp 30) (.tmp 35) rfl cstTy (by decide) (g2+1) (.slice (some ⟨gz,0,none⟩) 0 0) [] rfl Zg.out gv x.pA x.pn x.pc x.pool rfl Zx.out.im.pl.1 Zx.out.im.pool Vp.out hz ?_;intro V7 y19 hO hg hv _;refine wpList_nil ?_;have hch:Ch y18 y19 (OneR gz):=Ch.of_grown hg (fun k e=>by injection e with e;exact e.symm);have HVq_:=bx (Zx.out.far hch (fun k hk e=>by have e:k=gz:=e;have:=Xf.out;have:=Tm.out;have:=Zc.out;omega));have HKq_:=bx (Zr.out.ch hch (fun e=>by have e:g2=gz:=e;have:=Xf.out;omega));have HCq_:=bx (Zn.out.trans hch (fun k hk e=>by have e:k=gz:=e;have:=Xf.out;have:=Zc.out;omega));have H20_:=bx (Ze.out.ch hch (fun e=>Wy.out (show g5=gz from e).symm));have hO2:=hO;rw[Z28]at hO2;obtain⟨A7,c7,e7,_,_⟩:=hO2.rd;obtain⟨n7,hn7⟩:∃n7,x.pool.length=n7:=⟨_,rfl⟩;rw[hn7]at e7;subst e7;have Xs:=bx hO2
      have Vz:Bx ((Value.slice A7 n7 c7).ownBlock≠some g5):=bx (fun e=>by
       have h1:=Ze.out.lt;rcases hv with h | h
       ·rw[h]at e;injection e with e;exact Wy.out e
       ·rw[h]at e;injection e with e;omega)
      clear Zg hO hO2 hg hv hch hz hn7 Zx Zr Zn Ze;have Zx:=HVq_;have Zr:=HKq_;have Zn:=HCq_;have Ze:=H20_;clear HVq_ HKq_ HCq_ H20_;refine hK.out _ _ ⟨(Zx.out.box.cell 3).trans rfl,(Zx.out.box.cell 4).trans rfl,(Zx.out.box.cell 2).trans rfl⟩ ?_;clear hK hP K;simp only[Act.put,Z01,Z02,Z03,Z06,Z04,Z05]
      iterate 1 (apply SeqW.take;(· rfl);(· (refine Or.inl ⟨?_,?_⟩;(· rfl);(· (intro w hSw;(try dsimp only at hSw);go_simp <;> with_reducible rfl))));simp only[Act.put,Z01,Z02,Z03,Z06,Z04,Z05])
      refine SeqW.run rfl (fun K hK hP=>?_);refine wpList_store_row rfl 27 (.tmp 3) (.tmp 37) rfl g5 (klA x.access nm [] (.slice none 0 0) (.slice none 0 0) (.slice none 0 0) (.slice A7 n7 c7)) rfl rfl 27 z7 Ze.out Y9h rfl (Y6n _ _ _ _ _ _ _ _ _ _ _ _ _ _ _) ?_;refine wpList_nil ?_;have hch:=Y9t y19 g5 (klA x.access nm [] (.slice none 0 0) (.slice none 0 0) (.slice none 0 0) (.slice A7 n7 c7));have H20_:=bx (Ze.out.setRow (klA x.access nm [] (.slice none 0 0) (.slice none 0 0) (.slice none 0 0) (.slice A7 n7 c7)));have HVq_:=bx (Zx.out.far hch (fun k hk e=>by have e:k=g5:=e;have:=Yq.out;have:=Tm.out;have:=Zc.out;omega));have HKq_:=bx (Zr.out.ch hch (fun e=>by have e:g2=g5:=e;have:=Yq.out;omega));have HCq_:=bx (Zn.out.trans hch (fun k hk e=>by have e:k=g5:=e;have:=Yq.out;have:=Zc.out;omega));have H18_:=bx (OwS.kept Xs.out (Y8r hch) (.inr Vz.out));clear hch Zx Zr Zn Xs Ze;have Zx:=HVq_;have Zr:=HKq_;have Zn:=HCq_;have Xs:=H18_;have Ze:=H20_;clear HVq_ HKq_ HCq_ H18_ H20_;refine hK.out _ _ ⟨(Zx.out.box.cell 3).trans rfl,(Zx.out.box.cell 4).trans rfl,(Zx.out.box.cell 2).trans rfl⟩ ?_;clear hK hP K;refine SeqW.done ?_;simp only[Act.put,Z01,Z02,Z03];go_wp2
      go_meet
      exact⟨g5,nm,A7,n7,c7,rfl,bx ⟨HT.out,Zx.out,Zr.out,Ze.out,Xs.out,Vz.out,Zn.out,Yq.out⟩⟩
    ·refine SeqW.run rfl (fun K hK hP=>?_)
     go_wp2_with fail
     have hb:=Y9z (Below.refl y13.heap.size y13) (Z00 _) (.cells #[.int .i64 0,.string ⟨#[]⟩,.string ⟨#[]⟩,.slice none 0 0,.slice none 0 0,.slice none 0 0,.slice none 0 0] 27);have HVq_:=bx (Zx.out.below hb);have HKq_:=bx (Zr.out.below hb Zr.out.lt);have HCq_:=bx (Zn.out.trans (Ch.of_below (S:=OneR gv) hb) (fun _ _ e=>e));have H12_:=bx (Zg.out.step hb);have HNW_:=Bk.new y13 27 #[.int .i64 0,.string ⟨#[]⟩,.string ⟨#[]⟩,.slice none 0 0,.slice none 0 0,.slice none 0 0,.slice none 0 0];have hgl:=Zr.out.lt;have hol:gz<y13.heap.size:=(Zg.out.blk (g:=gz) rfl).2;obtain⟨g5,hg⟩:∃g5,y13.heap.size=g5:=⟨_,rfl⟩;obtain⟨y21,hw⟩:∃y21,y13.alloc (.cells #[.int .i64 0,.string ⟨#[]⟩,.string ⟨#[]⟩,.slice none 0 0,.slice none 0 0,.slice none 0 0,.slice none 0 0] 27)=y21:=⟨_,rfl⟩;rw[hg,hw];rw[hw]at HVq_ HKq_ HCq_ H12_ HNW_;rw[hg]at HNW_ hgl hol;have Yq:Bx (g2<g5):=bx hgl;have Wy:Bx (gz≠g5):=bx (by omega);clear hb hg hw hgl hol;clear Zx Zr Zn Zg;have Zx:=HVq_;have Zr:=HKq_;have Zn:=HCq_;have Zg:=H12_;clear HVq_ HKq_ HCq_ H12_;have Ze:=bx HNW_;clear HNW_;refine hK.out _ _ ⟨(Zx.out.box.cell 3).trans rfl,(Zx.out.box.cell 4).trans rfl,(Zx.out.box.cell 2).trans rfl⟩ ?_;clear hK hP K;refine SeqW.run rfl (fun K hK hP=>?_);go_wp2_with fail
     refine Y8m (x:=x) (b:=false) x.this Zx.out ?_ ?_
     ·intro h wq hb
      go_wp2;refine hP.out _ _ _ ?_;exact⟨rfl,Yh.out _ (by rw[Wx.out];show (plainK x.p.pool x.this).bind _=none;rw[h];rfl) (Zn.out.trans (Ch.of_below (S:=OneR gv) hb) (fun _ _ e=>e))⟩
     intro nm hs y22 hb;have HT:=bx hs;have HVq_:=bx (Zx.out.below hb);have HKq_:=bx (Zr.out.below hb Zr.out.lt);have HCq_:=bx (Zn.out.trans (Ch.of_below (S:=OneR gv) hb) (fun _ _ e=>e));have H12_:=bx (Zg.out.step hb);have H20_:=bx (Ze.out.below hb Ze.out.lt);clear Zx Zr Zn Zg Ze;have Zx:=HVq_;have Zr:=HKq_;have Zn:=HCq_;have Zg:=H12_;have Ze:=H20_;clear HVq_ HKq_ HCq_ H12_ H20_;clear hs hb;go_wp2;refine hK.out _ _ ⟨(Zx.out.box.cell 3).trans rfl,(Zx.out.box.cell 4).trans rfl,(Zx.out.box.cell 2).trans rfl⟩ ?_;clear hK hP K;refine SeqW.run rfl (fun K hK hP=>?_);have hz:g2+1≤y22.heap.size:=Zr.out.lt;refine Y9y _ cstCels rfl (.tmp 30) (.tmp 35) rfl cstTy (by decide) (g2+1) (.slice (some ⟨gz,0,none⟩) 0 0) [] rfl Zg.out gv x.pA x.pn x.pc x.pool rfl Zx.out.im.pl.1 Zx.out.im.pool Vp.out hz ?_;intro V7 y23 hO hg hv _;refine wpList_nil ?_;have hch:Ch y22 y23 (OneR gz):=Ch.of_grown hg (fun k e=>by injection e with e;exact e.symm);have HVq_:=bx (Zx.out.far hch (fun k hk e=>by have e:k=gz:=e;have:=Xf.out;have:=Tm.out;have:=Zc.out;omega));have HKq_:=bx (Zr.out.ch hch (fun e=>by have e:g2=gz:=e;have:=Xf.out;omega));have HCq_:=bx (Zn.out.trans hch (fun k hk e=>by have e:k=gz:=e;have:=Xf.out;have:=Zc.out;omega));have H20_:=bx (Ze.out.ch hch (fun e=>Wy.out (show g5=gz from e).symm));have hO2:=hO;rw[Z28]at hO2;obtain⟨A7,c7,e7,_,_⟩:=hO2.rd;obtain⟨n7,hn7⟩:∃n7,x.pool.length=n7:=⟨_,rfl⟩;rw[hn7]at e7;subst e7;have Xs:=bx hO2
     have Vz:Bx ((Value.slice A7 n7 c7).ownBlock≠some g5):=bx (fun e=>by
      have h1:=Ze.out.lt;rcases hv with h | h
      ·rw[h]at e;injection e with e;exact Wy.out e
      ·rw[h]at e;injection e with e;omega)
     clear Zg hO hO2 hg hv hch hz hn7 Zx Zr Zn Ze;have Zx:=HVq_;have Zr:=HKq_;have Zn:=HCq_;have Ze:=H20_;clear HVq_ HKq_ HCq_ H20_;refine hK.out _ _ ⟨(Zx.out.box.cell 3).trans rfl,(Zx.out.box.cell 4).trans rfl,(Zx.out.box.cell 2).trans rfl⟩ ?_;clear hK hP K;simp only[Act.put,Z01,Z02,Z03,Z06,Z04,Z05]
     iterate 1 (apply SeqW.take;(· rfl);(· (refine Or.inl ⟨?_,?_⟩;(· rfl);(· (intro w hSw;(try dsimp only at hSw);go_simp <;> with_reducible rfl))));simp only[Act.put,Z01,Z02,Z03,Z06,Z04,Z05])
     refine SeqW.run rfl (fun K hK hP=>?_);refine wpList_store_row rfl 27 (.tmp 3) (.tmp 37) rfl g5 (klA x.access nm [] (.slice none 0 0) (.slice none 0 0) (.slice none 0 0) (.slice A7 n7 c7)) rfl rfl 27 z7 Ze.out Y9h rfl (Y6n _ _ _ _ _ _ _ _ _ _ _ _ _ _ _) ?_;refine wpList_nil ?_;have hch:=Y9t y23 g5 (klA x.access nm [] (.slice none 0 0) (.slice none 0 0) (.slice none 0 0) (.slice A7 n7 c7));have H20_:=bx (Ze.out.setRow (klA x.access nm [] (.slice none 0 0) (.slice none 0 0) (.slice none 0 0) (.slice A7 n7 c7)));have HVq_:=bx (Zx.out.far hch (fun k hk e=>by have e:k=g5:=e;have:=Yq.out;have:=Tm.out;have:=Zc.out;omega));have HKq_:=bx (Zr.out.ch hch (fun e=>by have e:g2=g5:=e;have:=Yq.out;omega));have HCq_:=bx (Zn.out.trans hch (fun k hk e=>by have e:k=g5:=e;have:=Yq.out;have:=Zc.out;omega));have H18_:=bx (OwS.kept Xs.out (Y8r hch) (.inr Vz.out));clear hch Zx Zr Zn Xs Ze;have Zx:=HVq_;have Zr:=HKq_;have Zn:=HCq_;have Xs:=H18_;have Ze:=H20_;clear HVq_ HKq_ HCq_ H18_ H20_;refine hK.out _ _ ⟨(Zx.out.box.cell 3).trans rfl,(Zx.out.box.cell 4).trans rfl,(Zx.out.box.cell 2).trans rfl⟩ ?_;clear hK hP K;refine SeqW.done ?_;simp only[Act.put,Z01,Z02,Z03];go_wp2
     go_meet
     exact⟨g5,nm,A7,n7,c7,rfl,bx ⟨HT.out,Zx.out,Zr.out,Ze.out,Xs.out,Vz.out,Zn.out,Yq.out⟩⟩
   ·refine SeqW.run rfl (fun K hK hP=>?_)
    go_wp2_with fail
    have hb:=Y9z (Below.refl y0.heap.size y0) (Z00 _) (.cells #[.int .i64 0,.string ⟨#[]⟩,.string ⟨#[]⟩,.slice none 0 0,.slice none 0 0,.slice none 0 0,.slice none 0 0] 27);have HVq_:=bx (Zx.out.below hb);have HKq_:=bx (Zr.out.below hb Zr.out.lt);have HCq_:=bx (Zn.out.trans (Ch.of_below (S:=OneR gv) hb) (fun _ _ e=>e));have HNW_:=Bk.new y0 27 #[.int .i64 0,.string ⟨#[]⟩,.string ⟨#[]⟩,.slice none 0 0,.slice none 0 0,.slice none 0 0,.slice none 0 0];have hgl:=Zr.out.lt;obtain⟨g5,hg⟩:∃g5,y0.heap.size=g5:=⟨_,rfl⟩;obtain⟨y25,hw⟩:∃y25,y0.alloc (.cells #[.int .i64 0,.string ⟨#[]⟩,.string ⟨#[]⟩,.slice none 0 0,.slice none 0 0,.slice none 0 0,.slice none 0 0] 27)=y25:=⟨_,rfl⟩;rw[hg,hw];rw[hw]at HVq_ HKq_ HCq_ HNW_;rw[hg]at HNW_ hgl;have Yq:Bx (g2<g5):=bx hgl;clear hb hg hw hgl;clear Zx Zr Zn;have Zx:=HVq_;have Zr:=HKq_;have Zn:=HCq_;clear HVq_ HKq_ HCq_;have Ze:=bx HNW_;clear HNW_;refine hK.out _ _ ⟨(Zx.out.box.cell 3).trans rfl,(Zx.out.box.cell 4).trans rfl,(Zx.out.box.cell 2).trans rfl⟩ ?_;clear hK hP K;refine SeqW.both rfl (fun K hK hP=>?_) ?_
    ·go_wp2_with fail
     refine Y8m (x:=x) (b:=false) x.this Zx.out ?_ ?_
     ·intro h wq hb
      go_wp2;refine hP.out _ _ _ ?_;exact⟨rfl,Yh.out _ (by rw[Wx.out];show (plainK x.p.pool x.this).bind _=none;rw[h];rfl) (Zn.out.trans (Ch.of_below (S:=OneR gv) hb) (fun _ _ e=>e))⟩
     intro nm hs y26 hb;have HT:=bx hs;have HVq_:=bx (Zx.out.below hb);have HKq_:=bx (Zr.out.below hb Zr.out.lt);have HCq_:=bx (Zn.out.trans (Ch.of_below (S:=OneR gv) hb) (fun _ _ e=>e));have H20_:=bx (Ze.out.below hb Ze.out.lt);clear Zx Zr Zn Ze;have Zx:=HVq_;have Zr:=HKq_;have Zn:=HCq_;have Ze:=H20_;clear HVq_ HKq_ HCq_ H20_;clear hs hb;go_wp2;refine hK.out _ _ ⟨(Zx.out.box.cell 3).trans rfl,(Zx.out.box.cell 4).trans rfl,(Zx.out.box.cell 2).trans rfl⟩ ?_;clear hK hP K;refine SeqW.run rfl (fun K hK hP=>?_);go_wp2_with fail
     have hb:=Y9z (Below.refl y26.heap.size y26) (Z00 _) (.cells #[] 39);have HVq_:=bx (Zx.out.below hb);have HKq_:=bx (Zr.out.below hb Zr.out.lt);have HCq_:=bx (Zn.out.trans (Ch.of_below (S:=OneR gv) hb) (fun _ _ e=>e));have H20_:=bx (Ze.out.below hb Ze.out.lt);have HNW_:=OwS.lit0 (fC:=cstC) (sz:=5) (B:=g2+1) (e:=39) y26 Zr.out.lt;have hgl:=Zr.out.lt;have hol:g5<y26.heap.size:=Ze.out.lt;obtain⟨gz,hg⟩:∃gz,y26.heap.size=gz:=⟨_,rfl⟩;obtain⟨y27,hw⟩:∃y27,y26.alloc (.cells #[] 39)=y27:=⟨_,rfl⟩;rw[hg,hw];rw[hw]at HVq_ HKq_ HCq_ H20_ HNW_;rw[hg]at HNW_ hgl hol;have Xf:Bx (g2<gz):=bx hgl;have Wy:Bx (gz≠g5):=bx (by omega);clear hb hg hw hgl hol;clear Zx Zr Zn Ze;have Zx:=HVq_;have Zr:=HKq_;have Zn:=HCq_;have Ze:=H20_;clear HVq_ HKq_ HCq_ H20_;have Zg:=bx HNW_;clear HNW_;refine hK.out _ _ ⟨(Zx.out.box.cell 3).trans rfl,(Zx.out.box.cell 4).trans rfl,(Zx.out.box.cell 2).trans rfl⟩ ?_;clear hK hP K;refine SeqW.run rfl (fun K hK hP=>?_);have hz:g2+1≤y27.heap.size:=Zr.out.lt;refine Y9y _ cstCels rfl (.tmp 30) (.tmp 35) rfl cstTy (by decide) (g2+1) (.slice (some ⟨gz,0,none⟩) 0 0) [] rfl Zg.out gv x.pA x.pn x.pc x.pool rfl Zx.out.im.pl.1 Zx.out.im.pool Vp.out hz ?_;intro V7 y28 hO hg hv _;refine wpList_nil ?_;have hch:Ch y27 y28 (OneR gz):=Ch.of_grown hg (fun k e=>by injection e with e;exact e.symm);have HVq_:=bx (Zx.out.far hch (fun k hk e=>by have e:k=gz:=e;have:=Xf.out;have:=Tm.out;have:=Zc.out;omega));have HKq_:=bx (Zr.out.ch hch (fun e=>by have e:g2=gz:=e;have:=Xf.out;omega));have HCq_:=bx (Zn.out.trans hch (fun k hk e=>by have e:k=gz:=e;have:=Xf.out;have:=Zc.out;omega));have H20_:=bx (Ze.out.ch hch (fun e=>Wy.out (show g5=gz from e).symm));have hO2:=hO;rw[Z28]at hO2;obtain⟨A7,c7,e7,_,_⟩:=hO2.rd;obtain⟨n7,hn7⟩:∃n7,x.pool.length=n7:=⟨_,rfl⟩;rw[hn7]at e7;subst e7;have Xs:=bx hO2
     have Vz:Bx ((Value.slice A7 n7 c7).ownBlock≠some g5):=bx (fun e=>by
      have h1:=Ze.out.lt;rcases hv with h | h
      ·rw[h]at e;injection e with e;exact Wy.out e
      ·rw[h]at e;injection e with e;omega)
     clear Zg hO hO2 hg hv hch hz hn7 Zx Zr Zn Ze;have Zx:=HVq_;have Zr:=HKq_;have Zn:=HCq_;have Ze:=H20_;clear HVq_ HKq_ HCq_ H20_;refine hK.out _ _ ⟨(Zx.out.box.cell 3).trans rfl,(Zx.out.box.cell 4).trans rfl,(Zx.out.box.cell 2).trans rfl⟩ ?_;clear hK hP K;simp only[Act.put,Z01,Z02,Z03,Z06,Z04,Z05]
     iterate 1 (apply SeqW.take;(· rfl);(· (refine Or.inl ⟨?_,?_⟩;(· rfl);(· (intro w hSw;(try dsimp only at hSw);go_simp <;> with_reducible rfl))));simp only[Act.put,Z01,Z02,Z03,Z06,Z04,Z05])
     refine SeqW.run rfl (fun K hK hP=>?_);refine wpList_store_row rfl 27 (.tmp 3) (.tmp 37) rfl g5 (klA x.access nm [] (.slice none 0 0) (.slice none 0 0) (.slice none 0 0) (.slice A7 n7 c7)) rfl rfl 27 z7 Ze.out Y9h rfl (Y6n _ _ _ _ _ _ _ _ _ _ _ _ _ _ _) ?_;refine wpList_nil ?_;have hch:=Y9t y28 g5 (klA x.access nm [] (.slice none 0 0) (.slice none 0 0) (.slice none 0 0) (.slice A7 n7 c7));have H20_:=bx (Ze.out.setRow (klA x.access nm [] (.slice none 0 0) (.slice none 0 0) (.slice none 0 0) (.slice A7 n7 c7)));have HVq_:=bx (Zx.out.far hch (fun k hk e=>by have e:k=g5:=e;have:=Yq.out;have:=Tm.out;have:=Zc.out;omega));have HKq_:=bx (Zr.out.ch hch (fun e=>by have e:g2=g5:=e;have:=Yq.out;omega));have HCq_:=bx (Zn.out.trans hch (fun k hk e=>by have e:k=g5:=e;have:=Yq.out;have:=Zc.out;omega));have H18_:=bx (OwS.kept Xs.out (Y8r hch) (.inr Vz.out));clear hch Zx Zr Zn Xs Ze;have Zx:=HVq_;have Zr:=HKq_;have Zn:=HCq_;have Xs:=H18_;have Ze:=H20_;clear HVq_ HKq_ HCq_ H18_ H20_;refine hK.out _ _ ⟨(Zx.out.box.cell 3).trans rfl,(Zx.out.box.cell 4).trans rfl,(Zx.out.box.cell 2).trans rfl⟩ ?_;clear hK hP K;refine SeqW.done ?_;simp only[Act.put,Z01,Z02,Z03];go_wp2
     go_meet
     exact⟨g5,nm,A7,n7,c7,rfl,bx ⟨HT.out,Zx.out,Zr.out,Ze.out,Xs.out,Vz.out,Zn.out,Yq.out⟩⟩
    ·refine SeqW.run rfl (fun K hK hP=>?_)
     go_wp2_with fail
     have hb:=Y9z (Below.refl y25.heap.size y25) (Z00 _) (.cells #[] 39);have HVq_:=bx (Zx.out.below hb);have HKq_:=bx (Zr.out.below hb Zr.out.lt);have HCq_:=bx (Zn.out.trans (Ch.of_below (S:=OneR gv) hb) (fun _ _ e=>e));have H20_:=bx (Ze.out.below hb Ze.out.lt);have HNW_:=OwS.lit0 (fC:=cstC) (sz:=5) (B:=g2+1) (e:=39) y25 Zr.out.lt;have hgl:=Zr.out.lt;have hol:g5<y25.heap.size:=Ze.out.lt;obtain⟨gz,hg⟩:∃gz,y25.heap.size=gz:=⟨_,rfl⟩;obtain⟨y30,hw⟩:∃y30,y25.alloc (.cells #[] 39)=y30:=⟨_,rfl⟩;rw[hg,hw];rw[hw]at HVq_ HKq_ HCq_ H20_ HNW_;rw[hg]at HNW_ hgl hol;have Xf:Bx (g2<gz):=bx hgl;have Wy:Bx (gz≠g5):=bx (by omega);clear hb hg hw hgl hol;clear Zx Zr Zn Ze;have Zx:=HVq_;have Zr:=HKq_;have Zn:=HCq_;have Ze:=H20_;clear HVq_ HKq_ HCq_ H20_;have Zg:=bx HNW_;clear HNW_;refine hK.out _ _ ⟨(Zx.out.box.cell 3).trans rfl,(Zx.out.box.cell 4).trans rfl,(Zx.out.box.cell 2).trans rfl⟩ ?_;clear hK hP K;refine SeqW.run rfl (fun K hK hP=>?_);go_wp2_with fail
     refine Y8m (x:=x) (b:=false) x.this Zx.out ?_ ?_
     ·intro h wq hb
      go_wp2;refine hP.out _ _ _ ?_;exact⟨rfl,Yh.out _ (by rw[Wx.out];show (plainK x.p.pool x.this).bind _=none;rw[h];rfl) (Zn.out.trans (Ch.of_below (S:=OneR gv) hb) (fun _ _ e=>e))⟩
     intro nm hs y31 hb;have HT:=bx hs;have HVq_:=bx (Zx.out.below hb);have HKq_:=bx (Zr.out.below hb Zr.out.lt);have HCq_:=bx (Zn.out.trans (Ch.of_below (S:=OneR gv) hb) (fun _ _ e=>e));have H12_:=bx (Zg.out.step hb);have H20_:=bx (Ze.out.below hb Ze.out.lt);clear Zx Zr Zn Zg Ze;have Zx:=HVq_;have Zr:=HKq_;have Zn:=HCq_;have Zg:=H12_;have Ze:=H20_;clear HVq_ HKq_ HCq_ H12_ H20_;clear hs hb;go_wp2;refine hK.out _ _ ⟨(Zx.out.box.cell 3).trans rfl,(Zx.out.box.cell 4).trans rfl,(Zx.out.box.cell 2).trans rfl⟩ ?_;clear hK hP K;refine SeqW.run rfl (fun K hK hP=>?_);have hz:g2+1≤y31.heap.size:=Zr.out.lt;refine Y9y _ cstCels rfl (.tmp 30) (.tmp 35) rfl cstTy (by decide) (g2+1) (.slice (some ⟨gz,0,none⟩) 0 0) [] rfl Zg.out gv x.pA x.pn x.pc x.pool rfl Zx.out.im.pl.1 Zx.out.im.pool Vp.out hz ?_;intro V7 y32 hO hg hv _;refine wpList_nil ?_;have hch:Ch y31 y32 (OneR gz):=Ch.of_grown hg (fun k e=>by injection e with e;exact e.symm);have HVq_:=bx (Zx.out.far hch (fun k hk e=>by have e:k=gz:=e;have:=Xf.out;have:=Tm.out;have:=Zc.out;omega));have HKq_:=bx (Zr.out.ch hch (fun e=>by have e:g2=gz:=e;have:=Xf.out;omega));have HCq_:=bx (Zn.out.trans hch (fun k hk e=>by have e:k=gz:=e;have:=Xf.out;have:=Zc.out;omega));have H20_:=bx (Ze.out.ch hch (fun e=>Wy.out (show g5=gz from e).symm));have hO2:=hO;rw[Z28]at hO2;obtain⟨A7,c7,e7,_,_⟩:=hO2.rd;obtain⟨n7,hn7⟩:∃n7,x.pool.length=n7:=⟨_,rfl⟩;rw[hn7]at e7;subst e7;have Xs:=bx hO2
     have Vz:Bx ((Value.slice A7 n7 c7).ownBlock≠some g5):=bx (fun e=>by
      have h1:=Ze.out.lt;rcases hv with h | h
      ·rw[h]at e;injection e with e;exact Wy.out e
      ·rw[h]at e;injection e with e;omega)
     clear Zg hO hO2 hg hv hch hz hn7 Zx Zr Zn Ze;have Zx:=HVq_;have Zr:=HKq_;have Zn:=HCq_;have Ze:=H20_;clear HVq_ HKq_ HCq_ H20_;refine hK.out _ _ ⟨(Zx.out.box.cell 3).trans rfl,(Zx.out.box.cell 4).trans rfl,(Zx.out.box.cell 2).trans rfl⟩ ?_;clear hK hP K;simp only[Act.put,Z01,Z02,Z03,Z06,Z04,Z05]
     iterate 1 (apply SeqW.take;(· rfl);(· (refine Or.inl ⟨?_,?_⟩;(· rfl);(· (intro w hSw;(try dsimp only at hSw);go_simp <;> with_reducible rfl))));simp only[Act.put,Z01,Z02,Z03,Z06,Z04,Z05])
     refine SeqW.run rfl (fun K hK hP=>?_);refine wpList_store_row rfl 27 (.tmp 3) (.tmp 37) rfl g5 (klA x.access nm [] (.slice none 0 0) (.slice none 0 0) (.slice none 0 0) (.slice A7 n7 c7)) rfl rfl 27 z7 Ze.out Y9h rfl (Y6n _ _ _ _ _ _ _ _ _ _ _ _ _ _ _) ?_;refine wpList_nil ?_;have hch:=Y9t y32 g5 (klA x.access nm [] (.slice none 0 0) (.slice none 0 0) (.slice none 0 0) (.slice A7 n7 c7));have H20_:=bx (Ze.out.setRow (klA x.access nm [] (.slice none 0 0) (.slice none 0 0) (.slice none 0 0) (.slice A7 n7 c7)));have HVq_:=bx (Zx.out.far hch (fun k hk e=>by have e:k=g5:=e;have:=Yq.out;have:=Tm.out;have:=Zc.out;omega));have HKq_:=bx (Zr.out.ch hch (fun e=>by have e:g2=g5:=e;have:=Yq.out;omega));have HCq_:=bx (Zn.out.trans hch (fun k hk e=>by have e:k=g5:=e;have:=Yq.out;have:=Zc.out;omega));have H18_:=bx (OwS.kept Xs.out (Y8r hch) (.inr Vz.out));clear hch Zx Zr Zn Xs Ze;have Zx:=HVq_;have Zr:=HKq_;have Zn:=HCq_;have Xs:=H18_;have Ze:=H20_;clear HVq_ HKq_ HCq_ H18_ H20_;refine hK.out _ _ ⟨(Zx.out.box.cell 3).trans rfl,(Zx.out.box.cell 4).trans rfl,(Zx.out.box.cell 2).trans rfl⟩ ?_;clear hK hP K;refine SeqW.done ?_;simp only[Act.put,Z01,Z02,Z03];go_wp2
     go_meet
     exact⟨g5,nm,A7,n7,c7,rfl,bx ⟨HT.out,Zx.out,Zr.out,Ze.out,Xs.out,Vz.out,Zn.out,Yq.out⟩⟩
  -- DEV}
 case rest=>
  obtain⟨g5,nm,A7,n7,c7,rfl,hC⟩:=hcut;obtain⟨acn,hac⟩:=Z44 HI.out.ac.1;have hac2:acn<65536:=by have:=HI.out.ac.2;omega
  have P8:Bx (x.p.access=(acn:Int)):=bx hac
  have Vf:Bx (R=gdK (bitsK acn 1585) (
   gdK (!(decide (acn &&& 512≠0))||decide (acn &&& 1024≠0)) (gdK (decide (acn &&& 1024=0)||decide (acn &&& 16=0)) (
    (if nm=objN then gdK (decide (x.p.super=0∧x.p.ifaces=[]) && !(decide (acn &&& 512≠0))) (some []) else (plainK x.p.pool x.p.super).bind fun s=>gdK (!(decide (acn &&& 512≠0))||decide (s=objN)) (some s)).bind fun su=>
     (eachK (plainK x.p.pool) (fun s=>(s,[])) x.p.ifaces []).bind fun ifs=>(eachK (fldK x.p.pool (decide (acn &&& 512≠0))) (fun f=>(f.name,f.desc)) x.p.fields []).bind fun fs=>
      (eachK (mthK x.p.pool (decide (acn &&& 512≠0))) (fun f=>(f.name,f.desc)) x.p.methods []).map fun ms=>⟨x.p.access,nm,su,ifs,fs,ms⟩)))):=bx (by
   rw[Wx.out];have h1:plainK x.p.pool x.p.this=some nm:=hC.out.1;have h2:x.p.access=(acn:Int):=hac;rw[h1,h2];rfl)
  have Zx:=bx hC.out.2.1;have Zr:=bx hC.out.2.2.1;have H5:=bx hC.out.2.2.2.1;have Xs:=bx hC.out.2.2.2.2.1;have Vz:=bx hC.out.2.2.2.2.2.1;have Zn:=bx hC.out.2.2.2.2.2.2.1;have Yq:=bx hC.out.2.2.2.2.2.2.2;rw[hac]at H5;clear hC Wx hac;have c0:wc.cell? ⟨g5,0,none⟩=some (.int .i64 (acn:Int)):=(H5.out.cell 0).trans rfl;have hg5:=H5.out.lt;go_step;go_wp2_with fail
  refine(Y6o acn 1585 wc hac2 (by decide)).mono ?_
  rintro e w3 ⟨rfl,hw⟩;obtain rfl:wc=w3:=hw.symm;obtain⟨qa,hqa⟩:∃qa,bitsK acn 1585=qa:=⟨_,rfl⟩;rw[hqa]at Vf ⊢;clear hqa;cases qa with
  | false=>
   have HX:Bx (R=none):=bx Vf.out;go_wp2_with fail
   refine Y9w _ (fun _=>?_) (fun e=>by cases e);go_wp2;exact⟨rfl,Yh.out _ HX.out Zn.out⟩
  | true=>
  go_wp2_with fail
  refine Y9w _ (fun e=>by cases e) (fun _=>?_);obtain⟨k5,hk5⟩:∃k5,acn &&& 512=k5:=⟨_,rfl⟩;obtain⟨ka,hka⟩:∃ka,acn &&& 1024=ka:=⟨_,rfl⟩;obtain⟨kf,hkf⟩:∃kf,acn &&& 16=kf:=⟨_,rfl⟩;have hb5:bits .and .i64 (acn:Int) 512=(k5:Int):=by rw[←hk5];exact Y6w acn 512 hac2 (by decide)
  have hba:bits .and .i64 (acn:Int) 1024=(ka:Int):=by rw[←hka];exact Y6w acn 1024 hac2 (by decide)
  have hbf:bits .and .i64 (acn:Int) 16=(kf:Int):=by rw[←hkf];exact Y6w acn 16 hac2 (by decide)
  obtain⟨ifc,hifc⟩:∃ifc,decide (acn &&& 512≠0)=ifc:=⟨_,rfl⟩;have hn5:((k5:Int) != 0)=ifc:=by rw[←hifc,hk5];by_cases h:k5=0 <;> simp [h]
  rw[hifc]at Vf;have hfz:=Zx.out.box.frz 10;have hcl:wc.cell? ⟨gv,10,none⟩=some (.bool false):=(Zx.out.box.cell 10).trans rfl;have hgv2:=Zx.out.lt;go_upto_region 5 with(fail)
  have hchf:Ch wc (wc.setCell ⟨gv,10,none⟩ (.bool ifc)) (OneR gv):=Ch.one;have hgvo:∀k,w.heap.size≤k→k≠gv:=fun k hk e=>by have:=Tm.out;omega
  have Mw:=bx (Zx.out.flag ifc);have Zk:=bx (Zr.out.ch hchf (hgvo _ Zc.out));have Kf:=bx (H5.out.ch hchf (hgvo _ (by have:=Zc.out;have:=Yq.out;omega)));have Me:=bx (OwS.one Xs.out hchf (by have:=Tm.out;have:=Zc.out;omega));have Yg:=bx (Zn.out.trans hchf (fun _ _ e=>e));generalize wc.setCell ⟨gv,10,none⟩ (.bool ifc)=w4 at Mw Zk Kf Me Yg ⊢;clear hchf hgvo hfz hcl hgv2 hg5 c0 Zx Zr H5 Xs Zn hb5 hn5 hifc hk5;have c0:w4.cell? ⟨g5,0,none⟩=some (.int .i64 (acn:Int)):=(Kf.out.cell 0).trans rfl;have hg5:=Kf.out.lt;have c10:w4.cell? ⟨gv,10,none⟩=some (.bool ifc):=(Mw.out.box.cell 10).trans rfl;have hgv4:=Mw.out.lt;have Cp:Bx (acn &&& 1024=ka∧acn &&& 16=kf):=bx ⟨hka,hkf⟩;clear hka hkf
  go_cut [59] from 49 to 60 (fun _ wx=>wx=w4∧Bx ((!ifc||decide (acn &&& 1024≠0))=true))
  case first=>
   cases ifc with
   | false=>
    go_wp2_with fail
    refine Y9w _ (fun e=>by cases e) (fun _=>?_);go_wp2
    go_meet
    exact⟨rfl,bx (by first | trivial | rfl)⟩
   | true=>
    obtain⟨qa,hqa⟩:∃qa,((ka:Int) != 0)=qa:=⟨_,rfl⟩;have Nf:Bx (decide (acn &&& 1024≠0)=qa):=bx (by rw[←hqa,Cp.out.1];by_cases h:ka=0 <;> simp [h]);rw[Nf.out]at Vf;cases qa with
    | false=>
     have HX:Bx (R=none):=bx Vf.out;go_wp2_with fail
     refine Y9w _ (fun _=>?_) (fun e=>by cases e);go_wp2;exact⟨rfl,Yh.out _ HX.out Yg.out⟩
    | true=>
     go_wp2_with fail
     refine Y9w _ (fun e=>by cases e) (fun _=>?_);go_wp2
     go_meet
     exact⟨rfl,bx (by rw[Nf.out];rfl)⟩
  case rest=>
  obtain⟨hw,Zl⟩:=hcut;subst hw
  rename World=>w4
  have Su:Bx (R=(gdK (decide (acn &&& 1024=0)||decide (acn &&& 16=0)) (
    (if nm=objN then gdK (decide (x.p.super=0∧x.p.ifaces=[]) && !ifc) (some []) else (plainK x.p.pool x.p.super).bind fun s=>gdK (!ifc||decide (s=objN)) (some s)).bind fun su=>
     (eachK (plainK x.p.pool) (fun s=>(s,[])) x.p.ifaces []).bind fun ifs=>(eachK (fldK x.p.pool ifc) (fun f=>(f.name,f.desc)) x.p.fields []).bind fun fs=>
      (eachK (mthK x.p.pool ifc) (fun f=>(f.name,f.desc)) x.p.methods []).map fun ms=>⟨x.p.access,nm,su,ifs,fs,ms⟩))):=bx (by rw[Vf.out,Zl.out];rfl)
  clear Vf Zl;go_step;go_upto_region 6 with(fail)
  go_cut [70] from 61 to 71 (fun _ wx=>wx=w4∧Bx ((decide (acn &&& 1024=0)||decide (acn &&& 16=0))=true))
  case first=>
   obtain⟨qa,hqa⟩:∃qa,((ka:Int)==0)=qa:=⟨_,rfl⟩;have Nf:Bx (decide (acn &&& 1024=0)=qa):=bx (by rw[←hqa,Cp.out.1];by_cases h:ka=0 <;> simp [h]);obtain⟨qf,hqf⟩:∃qf,((kf:Int)==0)=qf:=⟨_,rfl⟩;have E7:Bx (decide (acn &&& 16=0)=qf):=bx (by rw[←hqf,Cp.out.2];by_cases h:kf=0 <;> simp [h]);rw[Nf.out,E7.out]at Su;cases qa with
   | true=>
    go_wp2_with fail
    refine Y9w _ (fun e=>by cases e) (fun _=>?_);go_wp2
    go_meet
    exact⟨rfl,bx (by rw[Nf.out];rfl)⟩
   | false=>
    cases qf with
    | false=>
     have HX:Bx (R=none):=bx Su.out;go_wp2_with fail
     refine Y9w _ (fun _=>?_) (fun e=>by cases e);go_wp2;exact⟨rfl,Yh.out _ HX.out Yg.out⟩
    | true=>
     go_wp2_with fail
     refine Y9w _ (fun e=>by cases e) (fun _=>?_);go_wp2
     go_meet
     exact⟨rfl,bx (by rw[Nf.out,E7.out];rfl)⟩
  case rest=>
  obtain⟨hw,Zl⟩:=hcut;subst hw
  rename World=>w4
  have To:Bx (R=(if nm=objN then gdK (decide (x.p.super=0∧x.p.ifaces=[]) && !ifc) (some []) else (plainK x.p.pool x.p.super).bind fun s=>gdK (!ifc||decide (s=objN)) (some s)).bind fun su=>
     (eachK (plainK x.p.pool) (fun s=>(s,[])) x.p.ifaces []).bind fun ifs=>(eachK (fldK x.p.pool ifc) (fun f=>(f.name,f.desc)) x.p.fields []).bind fun fs=>
      (eachK (mthK x.p.pool ifc) (fun f=>(f.name,f.desc)) x.p.methods []).map fun ms=>⟨x.p.access,nm,su,ifs,fs,ms⟩):=bx (by rw[Su.out,Zl.out];rfl)
  clear Su Zl Cp hba hbf;have c1:w4.cell? ⟨g5,1,none⟩=some (strQ nm):=(Kf.out.cell 1).trans rfl;unfold strQ at c1;go_step
  go_upto_if 74 with(fail)
  obtain⟨qo,hqo⟩:∃qo,(nm==[106,97,118,97,47,108,97,110,103,47,79,98,106,101,99,116])=qo:=⟨_,rfl⟩;rw[hqo];have Tr:Bx (qo=false→nm≠objN):=bx (fun e=>by rw[e]at hqo;intro e2;rw[e2]at hqo;cases hqo);have Tq:Bx (qo=true→nm=objN):=bx (fun e=>by rw[e]at hqo;exact eq_of_beq hqo);clear hqo
  go_cut [96] from 75 to 116 (fun _ wx=>∃su:List UInt8,Bx ((if nm=objN then gdK (decide (x.p.super=0∧x.p.ifaces=[]) && !ifc) (some []) else (plainK x.p.pool x.p.super).bind fun s=>gdK (!ifc||decide (s=objN)) (some s))=some su∧Vw wx gv x ifc∧Bk wx g2 27 z7∧Bk wx g5 27 (klA acn nm su (.slice none 0 0) (.slice none 0 0) (.slice none 0 0) (.slice A7 n7 c7))∧OwS cstC 5 wx (g2+1) 39 (.slice A7 n7 c7) x.pool∧Ch w wx (OneR gv)))
  case first=>
   -- DEV{
   have hstop:∀wq,(if nm=objN then gdK (decide (x.p.super=0∧x.p.ifaces=[]) && !ifc) (some []) else (plainK x.p.pool x.p.super).bind fun s=>gdK (!ifc||decide (s=objN)) (some s))=none→Ch w4 wq (OneR gv)→KrdP w gv x.p.pool R (.panicked brkC) wq:=fun wq h c=>Yh.out _ (by rw[To.out,h];rfl) (Yg.out.trans c (fun _ _ e=>e));have Zw:=bx hstop;have Bc:Bx (∀wq,(if nm=objN then gdK (decide (x.p.super=0∧x.p.ifaces=[]) && !ifc) (some []) else (plainK x.p.pool x.p.super).bind fun s=>gdK (!ifc||decide (s=objN)) (some s))=none→Ch w wq (OneR gv)→KrdP w gv x.p.pool R (.panicked brkC) wq):=bx (fun wq h c=>Yh.out _ (by rw[To.out,h];rfl) c);clear hstop To;cases qo with
   | true=>
    have Wi:=bx (Tq.out rfl);clear Tr Tq;obtain⟨sp,hsp⟩:∃sp,x.super=sp:=⟨_,rfl⟩;have c5:w4.cell? ⟨gv,5,none⟩=some (.int .i64 sp):=by rw[←hsp];exact(Mw.out.box.cell 5).trans rfl
    have c6:w4.cell? ⟨gv,6,none⟩=some (.slice x.iA x.i_n x.ic):=(Mw.out.box.cell 6).trans rfl;have Bb:Bx (x.p.ifaces.length=x.i_n):=bx Mw.out.im.il.1;have E6:Bx (x.p.super=sp):=bx hsp;clear hsp;by_cases hs0:sp=0
    case neg=>
     have hsb:(sp==0)=false:=(by simpa using hs0);have HX:=bx (Zw.out w4 (by rw[if_pos Wi.out,E6.out,Z48 (fun e=>hs0 e.1)];rfl) (Ch.refl _));clear hs0;go_wp2_with fail
     refine Y9w _ (fun _=>?_) (fun e=>by cases e);go_wp2;exact⟨rfl,HX.out⟩
    case pos=>
    have hsb:(sp==0)=true:=(by simpa using hs0);have Vh:=bx hs0;clear hs0;by_cases hi0:x.i_n=0
    case neg=>
     have hib:((x.i_n:Int)==0)=false:=by simp;omega
     have HX:=bx (Zw.out w4 (by rw[if_pos Wi.out,Z48 (fun e=>hi0 (by rw[←Bb.out,e.2];rfl))];rfl) (Ch.refl _));clear hi0;go_wp2_with fail
     refine Y9w _ (fun _=>?_) (fun e=>by cases e);go_wp2;exact⟨rfl,HX.out⟩
    case pos=>
    have hib:((x.i_n:Int)==0)=true:=by simp;omega
    have HI0:Bx (x.p.ifaces=[]):=bx (List.length_eq_zero_iff.1 (by rw[Bb.out];exact hi0));clear hi0;cases ifc with
    | true=>
     have HX:=bx (Zw.out w4 (by rw[if_pos Wi.out,Bool.and_comm];rfl) (Ch.refl _));go_wp2_with fail
     refine Y9w _ (fun _=>?_) (fun e=>by cases e);go_wp2;exact⟨rfl,HX.out⟩
    | false=>
     go_wp2_with fail
     refine Y9w _ (fun e=>by cases e) (fun _=>?_);go_wp2
     go_meet
     exact⟨[],bx ⟨by rw[if_pos Wi.out,Z47 ⟨E6.out.trans Vh.out,HI0.out⟩];rfl,Mw.out,Zk.out,Kf.out,Me.out,Yg.out⟩⟩
   | false=>
    have Wi:=bx (Tr.out rfl);clear Tr Tq;have c5:w4.cell? ⟨gv,5,none⟩=some (.int .i64 x.super):=(Mw.out.box.cell 5).trans rfl;go_wp2_with fail
    refine Y8m (x:=x) (b:=ifc) x.super Mw.out ?_ ?_
    ·intro h wq hb
     have h2:plainK x.p.pool x.p.super=none:=h;have HX:=bx (Zw.out wq (by rw[if_neg Wi.out,h2];rfl) (Ch.of_below hb));go_wp2;exact⟨rfl,HX.out⟩
    intro su hs w5 hb5;have P7:Bx (plainK x.p.pool x.p.super=some su):=bx hs;have P6:=bx (Mw.out.below hb5);have Zm:=bx (Zk.out.below hb5 Zk.out.lt);have Gb:=bx (Kf.out.below hb5 Kf.out.lt);have Ba:=bx (Me.out.step hb5);have Pa:Bx (Ch w4 w5 (OneR gv)):=bx (Ch.of_below hb5);have Xi:=bx (Yg.out.trans Pa.out (fun _ _ e=>e));clear hs hb5 Mw Zk Kf Me Yg c0 c1 c5 c10 hg5 hgv4;have hfz:=Gb.out.frz 2;have hcl:w5.cell? ⟨g5,2,none⟩=some (.string ⟨#[]⟩):=(Gb.out.cell 2).trans rfl;have hg5:=Gb.out.lt;go_upto_region 10 with(fail)
    have hch:Ch w5 (w5.setCell ⟨g5,2,none⟩ (.string ⟨su.toArray⟩)) (OneR g5):=Ch.one;have Z9:=bx (P6.out.far hch (fun k hk e=>by have e:k=g5:=e;have:=Yq.out;have:=Tm.out;have:=Zc.out;omega));have Zf:=bx (Zm.out.ch hch (fun e=>by have e:g2=g5:=e;have:=Yq.out;omega));have Sp:Bx (Bk (w5.setCell ⟨g5,2,none⟩ (.string ⟨su.toArray⟩)) g5 27 (klA acn nm su (.slice none 0 0) (.slice none 0 0) (.slice none 0 0) (.slice A7 n7 c7))):=bx (Gb.out.set 2 _);have Fp:=bx (OwS.kept Ba.out (Y8r hch) (.inr Vz.out));have Wk:=bx (Xi.out.trans hch (fun k hk e=>by have e:k=g5:=e;have:=Yq.out;have:=Zc.out;omega));have Nz:Bx (∀wq,Ch (w5.setCell ⟨g5,2,none⟩ (.string ⟨su.toArray⟩)) wq (OneR gv)→(if nm=objN then gdK (decide (x.p.super=0∧x.p.ifaces=[]) && !ifc) (some []) else (plainK x.p.pool x.p.super).bind fun s=>gdK (!ifc||decide (s=objN)) (some s))=none→KrdP w gv x.p.pool R (.panicked brkC) wq):=bx (fun wq c h=>Bc.out wq h (Wk.out.trans c (fun _ _ e=>e)));generalize w5.setCell ⟨g5,2,none⟩ (.string ⟨su.toArray⟩)=w6 at Z9 Zf Sp Fp Wk Nz ⊢;clear hch hfz hcl hg5 P6 Zm Gb Ba Xi Pa;have c2:w6.cell? ⟨g5,2,none⟩=some (.string ⟨su.toArray⟩):=(Sp.out.cell 2).trans rfl;have hg5:=Sp.out.lt;have c10:w6.cell? ⟨gv,10,none⟩=some (.bool ifc):=(Z9.out.box.cell 10).trans rfl;have hgv6:=Z9.out.lt;cases ifc with
    | false=>
     go_wp2_with fail
     refine Y9w _ (fun e=>by cases e) (fun _=>?_);go_wp2
     go_meet
     exact⟨su,bx ⟨by rw[if_neg Wi.out,P7.out];rfl,Z9.out,Zf.out,Sp.out,Fp.out,Wk.out⟩⟩
    | true=>
     go_wp2_with fail
     refine Y9w _ (fun e=>?_) (fun e=>?_)
     ·have HX:=bx (Nz.out w6 (Ch.refl _) (by rw[if_neg Wi.out,P7.out];show gdK (!true||decide (su=objN)) _=none;rw[Z48 (by simpa [objN] using e)];rfl))
      clear e;go_wp2;exact⟨rfl,HX.out⟩
     ·have HX:Bx (su=objN):=bx (by simpa [objN] using e)
      clear e;go_wp2
      go_meet
      exact⟨su,bx ⟨by rw[if_neg Wi.out,P7.out];show gdK (!true||decide (su=objN)) _=_;rw[Z47 HX.out];rfl,Z9.out,Zf.out,Sp.out,Fp.out,Wk.out⟩⟩
   -- DEV}
  case rest=>
  obtain⟨su,hC⟩:=hcut;have Rb:Bx (R=(eachK (plainK x.p.pool) (fun s=>(s,[])) x.p.ifaces []).bind fun ifs=>(eachK (fldK x.p.pool ifc) (fun f=>(f.name,f.desc)) x.p.fields []).bind fun fs=>(eachK (mthK x.p.pool ifc) (fun f=>(f.name,f.desc)) x.p.methods []).map fun ms=>⟨(acn:Int),nm,su,ifs,fs,ms⟩):=bx (by rw[To.out,hC.out.1,P8.out];rfl);obtain⟨gm,hgm⟩:∃gm,wc.heap.size=gm:=⟨_,rfl⟩;have hba:=Y9z (Below.refl wc.heap.size wc) (Z00 _) (.map #[] 0)
  have hkr:Krs w (wc.alloc (.map #[] 0)) gv g2 g5 gm (gm+1) x ifc (klA acn nm su (.slice none 0 0) (.slice none 0 0) (.slice none 0 0) (.slice A7 n7 c7)) ⟨acn,nm,su,sq0,sq0,sq0,⟨A7,n7,c7,x.pool⟩⟩:=by
   have h5:=hC.out.2.2.2.1.lt;have h2:=hC.out.2.2.1.lt;refine⟨hC.out.2.1.below hba,hC.out.2.2.1.below hba h2,hC.out.2.2.2.1.below hba h5,hC.out.2.2.2.2.2.trans (Ch.of_below (S:=OneR gv) hba) (fun _ _ e=>e),?_,?_⟩
   ·have hp:SqX cstC wc (fun k=>g2<k∧k<gm∧k≠g5) ⟨A7,n7,c7,x.pool⟩:=SqX.ofo hC.out.2.2.2.2.1 (fun k e=>⟨(hC.out.2.2.2.2.1.blk e).1,by rw[←hgm];exact(hC.out.2.2.2.2.1.blk e).2,fun e2=>Vz.out (by rw[e,e2])⟩)
    exact⟨SqX.nil,SqX.nil,SqX.nil,(fun m hm=>by cases hm),hp.step (fun k hk=>hba.block k (by have:=hk.2.1;omega)) (fun k hk=>⟨hk.1,by have:=hk.2.1;omega,by have:=hk.2.1;omega,hk.2.2⟩)⟩
   ·have h1:=Tm.out;have h2':=Zc.out;have h3:=Yq.out
    exact⟨h1,h2',h3,by omega,by omega,by simp;omega⟩
  have Fm:Bx (MapT strQ (wc.alloc (.map #[] 0)) Tryd.prog 9 gm 0 (SeenG (memS []))):=bx ((MapT.madeAt wc _ _ hgm).ext (fun s=>rfl));have hmm:=@run_makeMap Tryd.prog;clear hba hC To Tr Tq Mw Zk Kf Me Yg Vz hg5 hgv4 c0 c1 c10;go_step;go_upto_region 12 with(fail)
  clear hmm;have Xg:=bx hkr;clear hkr;generalize wc.alloc (.map #[] 0)=w7 at Xg Fm ⊢;clear hgm;obtain⟨iN,hiN⟩:∃iN,x.i_n=iN:=⟨_,rfl⟩;obtain⟨iA,hiA⟩:∃iA,x.iA=iA:=⟨_,rfl⟩;have c6:w7.cell? ⟨gv,6,none⟩=some (.slice iA iN x.ic):=by rw[←hiA,←hiN];exact(Xg.out.vw.box.cell 6).trans rfl
  have Bb:Bx (x.ifs.length=iN):=bx (by rw[←hiN];exact Xg.out.vw.im.il.1);have HIA:=bx hiA;have hiN2:iN≤100000000:=by rw[←hiN];exact HI.out.i_n
  have hgv7:=Xg.out.vw.lt;clear hiN hiA;go_wp2_with fail
  go_loopw [124] (fun iv wx=>∃(i:Nat) (ss:List (List UInt8)) (A n c:_),i≤iN∧iv = .int .i64 (i:Int)∧Bx (ss.length≤i∧EachI (plainK x.p.pool) keyS x.p.ifaces i ss∧MapT strQ wx Tryd.prog 9 gm i (SeenG (memS ss))∧OwS txC 1 wx (gm+1) 9 (.slice A n c) ss∧Krs w wx gv g2 g5 gm (gm+1) x ifc (klA acn nm su (.slice A n c) (.slice none 0 0) (.slice none 0 0) (.slice A7 n7 c7)) ⟨acn,nm,su,sq0,sq0,sq0,⟨A7,n7,c7,x.pool⟩⟩)) (fun iv _=>iN-(intOf iv).toNat)
  case atStart=>exact⟨0,[],none,0,0,by omega,rfl,bx ⟨Z00 _,EachI.start,Fm.out,OwS.nil,Xg.out⟩⟩
  case round=>
   obtain⟨i,ss,A,n,c,hi,rfl,Zs⟩:=hrel;clear c6 hgv7 Xg Fm;by_cases hin:i<iN
   ·skip
    -- DEV{
    have hiI:(i:Int)<(iN:Int):=(by omega);obtain⟨ad,v,hA,hab,hvx,p0⟩:=RL.num Zs.out.2.2.2.2.vw.im.ifs (k:=i) (by rw[Bb.out];exact hin);rw[HIA.out]at hA;subst hA;have P5:Bx (x.p.ifaces[i]? = some v):=bx hvx.out;clear hvx;have hstop:∀wq,eachK (plainK x.p.pool) keyS x.p.ifaces []=none→Ch w wq (OneR gv)→KrdP w gv x.p.pool R (.panicked brkC) wq:=fun wq h c=>Yh.out _ (by rw[Rb.out];show (eachK (plainK x.p.pool) keyS x.p.ifaces []).bind _=none;rw[h];rfl) c;have Zw:=bx hstop;clear hstop;go_wp2_with fail
    refine Y8m (x:=x) (b:=ifc) v Zs.out.2.2.2.2.vw ?_ ?_
    ·intro h wq hb
     have HX:=bx (Zw.out wq (Zs.out.2.1.stop P5.out h) (Zs.out.2.2.2.2.ch.trans (Ch.of_below (S:=OneR gv) hb) (fun _ _ e=>e)));go_wp2;exact⟨rfl,HX.out⟩
    intro s hs w8 hb8;have Kn:Bx (plainK x.p.pool v=some s):=bx hs
    have Vy:Bx (s.length≤2000000):=bx (by
     have h1:=hs;unfold plainK at h1;obtain⟨s2,h2,h3⟩:=Y6j h1;unfold gdK at h3
     split at h3
     ·injection h3 with h3
      subst h3;exact X4g Zs.out.2.2.2.2.vw.txt h2
     ·cases h3)
    have Wr:=bx (Zs.out.2.2.2.2.below hb8);have Kp:=bx (Zs.out.2.2.2.1.step hb8);have P4:=bx (Zs.out.2.2.1.below hb8 Zs.out.2.2.1.lt);have P2:=bx Zs.out.2.1;have Co:=bx Zs.out.1;have Sw:=bx (keyQ s Vy.out);clear hs hb8 Zs p0;obtain⟨q,hq⟩:∃q,memS ss s=q:=⟨_,rfl⟩;have Ja:=bx (Y3l hq);have HQ:=bx hq;clear hq;go_wp2_with (at_lookup;refine Y7c rfl (.tmp 131) (.tmp 132) _ rfl 4 strQK Tryd.underlying100 (.bool false) (Y6f _) rfl P4.out s _ rfl Sw.out ?_;rw[Ja.out])
    cases q with
    | true=>have HX:=bx (Zw.out w8 (P2.out.twice P5.out Kn.out HQ.out) Wr.out.ch);refine Y9w _ (fun _=>?_) (fun e=>by cases e);go_wp2;exact⟨rfl,HX.out⟩
    | false=>
    refine Y9w _ (fun e=>by cases e) (fun _=>?_);have hi8:i<maxLen:=by unfold maxLen;omega
    go_upto_region 17 with(fail)
    go_upto_region 18 with(at_mapUpdate;refine Y8l rfl (.tmp 136) (.tmp 137) _ _ rfl 4 strQK Tryd.underlying100 rfl P4.out Y6l hi8 s (.bool true) _ rfl rfl Sw.out ?_;intro w9 hM9 hg9;have Pm:=bx hM9;have HG9:=bx hg9)
    have hch9:Ch w8 w9 (OneR gm):=Ch.of_grown hg9 (fun k e=>by injection e with e;exact e.symm);have Tj:=bx (Wr.out.step hch9 (fun k e => .inl e));have Yc:=bx (Kp.out.one hch9 (Z38 gm));have HM9':Bx (MapT strQ w9 Tryd.prog 9 gm (i+1) (SeenG (memS (ss++[s])))):=bx (hM9.ext (fun k=>X3b ss s k));have Z8:=bx (P2.out.next P5.out Kn.out HQ.out);have c3:w9.cell? ⟨g5,3,none⟩=some (.slice A n c):=Tj.out.cell rfl;have hg5:=Tj.out.k5.lt;have hba:=Y9z (Below.refl w9.heap.size w9) (Z00 _) (.cells #[strQ s] 9);have Mz:=bx (Tj.out.below hba);have Ko:=bx (Yc.out.alloc (.cells #[strQ s] 9));have Mv:=bx (HM9'.out.alloc (.cells #[strQ s] 9));have Zd:=bx (RS.new (fC:=txC) w9 s #[strQ s] rfl 9 (0,0));have Ke:Bx ((ss.length+[s].length)*16≤140737488355328):=bx (by simp only[Z11,Z13];have:=Co.out;omega);have hza:gm+1≤(w9.alloc (.cells #[strQ s] 9)).heap.size:=Mz.out.od.2.2.2.2.2;have Ph:Bx (g5<gm∧w.heap.size≤g5):=bx (by have:=Tj.out.od;omega);unfold strQ at Zd hza Mz Ko Mv;clear hM9 hg9 Pm HG9 hch9 Wr Kp P4 P2 Tj Yc HM9' hba Ja Sw HQ hi8;go_wp2_with (at_builtin;refine Y9y _ txCels rfl (.tmp 139) (.tmp 141) rfl stTy (by decide) (gm+1) (.slice A n c) ss rfl Ko.out (w9.heap.size+1) (some ⟨w9.heap.size,0,none⟩) 1 1 [s] rfl rfl Zd.out Ke.out hza ?_;intro V10 w10 hO10 hg10 hv10 hb10;obtain⟨A',c',e',_,_⟩:=hO10.rd;obtain⟨n',hn'⟩:∃n',(ss++[s]).length=n':=⟨_,rfl⟩;rw[hn']at e';subst e';have hcho:=Ch.of_low hb10;have Pf:=bx (Mz.out.step hcho (fun k e => .inr e));have Cn:=bx (Mv.out.below hb10 (Z38 gm));have Z7:=bx hO10;have hcl:w10.cell? ⟨g5,3,none⟩=some (.slice A n c):=Pf.out.cell rfl;have hfz:=Pf.out.k5.frz 3;have hg5b:=Pf.out.k5.lt)
    go_roundw
    case rel=>exact⟨i+1,ss++[s],A',n',c',by omega,by go_num,bx ⟨by rw[Z09];have:=Co.out;simp only[Z11,Z13];omega,Z8.out,Cn.out.setCell (fun e=>by have e:gm=g5:=e;have:=Ph.out;omega) _,Z7.out.far (by have:=Ph.out;omega),Pf.out.set5 3 _⟩⟩
    case measure=>simp [intOf];omega
    -- DEV}
   ·have hiI:¬(i:Int)<(iN:Int):=by omega
    have HE:Bx (eachK (plainK x.p.pool) keyS x.p.ifaces []=some ss):=bx (by have h1:=Zs.out.2.1;rw[show i=x.p.ifaces.length by show i=x.ifs.length;rw[Bb.out];omega]at h1;exact h1.done)
    have Sz:Bx (R=(eachK (fldK x.p.pool ifc) (fun f=>(f.name,f.desc)) x.p.fields []).bind fun fs=>
      (eachK (mthK x.p.pool ifc) (fun f=>(f.name,f.desc)) x.p.methods []).map fun ms=>⟨(acn:Int),nm,su,ss,fs,ms⟩):=bx (by
     have h2:eachK (plainK x.p.pool) (fun s=>(s,[])) x.p.ifaces []=some ss:=HE.out;rw[Rb.out,h2];rfl)
    have Xg:=bx Zs.out.2.2.2.2;have Z6:=bx Zs.out.2.2.2.1;clear Zs HE Rb
    rename World=>w11
    obtain⟨g8,hg8⟩:∃g8,w11.heap.size=g8:=⟨_,rfl⟩;have hz12:(w11.alloc (.map #[] 0)).heap.size=g8+1:=by rw[←hg8];simp
    have hb12:Below w11.heap.size w11 ((w11.alloc (.map #[] 0)).alloc (.map #[] 0)):=Y9z (Y9z (Below.refl _ w11) (Z00 _) _) (by simp) _;have hif:SqX txC w11 (fun k=>g2<k∧k<w11.heap.size∧k≠g5) ⟨A,n,c,ss⟩:=SqX.of Z6.out (fun k h1 h2=>⟨by have:=Xg.out.od;omega,h2,by have:=Xg.out.od;omega⟩);have hkr2:Krs w ((w11.alloc (.map #[] 0)).alloc (.map #[] 0)) gv g2 g5 w11.heap.size (w11.heap.size+2) x ifc (klA acn nm su (.slice A n c) (.slice none 0 0) (.slice none 0 0) (.slice A7 n7 c7)) ⟨acn,nm,su,⟨A,n,c,ss⟩,sq0,sq0,⟨A7,n7,c7,x.pool⟩⟩:=Xg.out.next (y':=⟨acn,nm,su,⟨A,n,c,ss⟩,sq0,sq0,⟨A7,n7,c7,x.pool⟩⟩) ⟨hif,SqX.nil,SqX.nil,(fun m hm=>by cases hm),Xg.out.fx.pool.step (fun _ _=>rfl) (fun k hk=>⟨hk.1,by have:=Xg.out.od;have:=hk.2.1;omega,hk.2.2.2⟩)⟩ hb12 2 (by simp) (by decide);rw[hg8]at hkr2;have hm0:MapT prV (w11.alloc (.map #[] 0)) Tryd.prog 104 g8 0 (SeenG (memB9 keyF [])):=(MapT.madeAt w11 _ _ hg8).ext (fun s=>rfl);have Ng:=bx (hm0.alloc (.map #[] 0));have Xt:Bx (MapT prV ((w11.alloc (.map #[] 0)).alloc (.map #[] 0)) Tryd.prog 104 (g8+1) 0 (SeenG (memB9 keyM []))):=bx ((MapT.madeAt (w11.alloc (.map #[] 0)) _ _ hz12).ext (fun s=>rfl));have Nr:=bx hkr2;have hmm:=@run_makeMap Tryd.prog;clear hb12 hif hkr2 hm0 Xg Z6;go_upto_region 21 with(fail)
    clear hmm;generalize (w11.alloc (.map #[] 0)).alloc (.map #[] 0)=w12 at Nr Ng Xt ⊢;clear hg8 hz12;obtain⟨fN,hfN⟩:∃fN,x.fn=fN:=⟨_,rfl⟩;obtain⟨fA,hfA⟩:∃fA,x.fA=fA:=⟨_,rfl⟩;have c7_:w12.cell? ⟨gv,7,none⟩=some (.slice fA fN x.fc):=by rw[←hfA,←hfN];exact(Nr.out.vw.box.cell 7).trans rfl
    have Kd:Bx (x.fs.length=fN):=bx (by rw[←hfN];exact Nr.out.vw.im.fl.1);have Ra:=bx hfA;have hfN2:fN≤100000000:=by rw[←hfN];exact HI.out.fs.1
    have hgv12:=Nr.out.vw.lt;clear hfN hfA;go_wp2_with fail
    go_loopw [153] (fun iv wx=>∃(i:Nat) (fs:List Fld) (A':Option Addr) (n' c':Nat),i≤fN∧iv = .int .i64 (i:Int)∧Bx (fs.length≤i∧EachI (fldK x.p.pool ifc) keyF x.p.fields i fs∧MapT prV wx Tryd.prog 104 g8 i (SeenG (memB9 keyF fs))∧MapT prV wx Tryd.prog 104 (g8+1) 0 (SeenG (memB9 keyM []))∧OwS flC 4 wx (g8+2) 61 (.slice A' n' c') fs∧Krs w wx gv g2 g5 g8 (g8+2) x ifc (klA acn nm su (.slice A n c) (.slice A' n' c') (.slice none 0 0) (.slice A7 n7 c7)) ⟨acn,nm,su,⟨A,n,c,ss⟩,sq0,sq0,⟨A7,n7,c7,x.pool⟩⟩)) (fun iv _=>fN-(intOf iv).toNat)
    case atStart=>exact⟨0,[],none,0,0,by omega,rfl,bx ⟨Z00 _,EachI.start,Ng.out,Xt.out,OwS.nil,Nr.out⟩⟩
    case round=>
     obtain⟨j,fs,A',n',c',hj,rfl,Zs⟩:=hrel;clear c7_ hgv12 Nr Ng Xt;by_cases hjn:j<fN
     ·have hjI:(j:Int)<(fN:Int):=by omega
      have hstop:∀wq,eachK (fldK x.p.pool ifc) keyF x.p.fields []=none→Ch w wq (OneR gv)→KrdP w gv x.p.pool R (.panicked brkC) wq:=fun wq h c=>Yh.out _ (by rw[Sz.out];show (eachK (fldK x.p.pool ifc) keyF x.p.fields []).bind _=none;rw[h];rfl) c;have Zw:=bx hstop;clear hstop;obtain⟨ad,m,hA,hab,hmx,d0,dj⟩:=Zs.out.2.2.2.2.2.vw.im.fs.1.at_ memCels (k:=j) (by rw[Kd.out];exact hjn);rw[Ra.out]at hA;subst hA;have hmem:=Z16 hmx.out;have Xc:Bx (x.p.fields[j]? = some m.p):=bx (by show (x.fs.map MmE.p)[j]? = _;rw[List.getElem?_map,hmx.out];rfl);obtain⟨mac,hmac⟩:=Z44 (HI.out.fs.2 m hmem).1;have hmac2:mac<65536:=by have:=(HI.out.fs.2 m hmem).2.1;omega
      have Cm:=bx (HI.out.fs.2 m hmem).2.2.1;have Z4:=bx (Zs.out.2.2.2.2.2.vw.im.fs.2 m hmem);have e0:wr.cell? (ad.add (j*4))=some (.int .i64 (mac:Int)):=by rw[←show m.access=(mac:Int) from hmac];exact d0 _ rfl
      have e1:=dj 0 _ rfl;have e2:=dj 1 _ rfl;have e3:=dj 2 _ rfl;simp only[Z22,Nat.reduceAdd]at e1 e2 e3;have Nq:Bx (m.access=(mac:Int)):=bx hmac;clear d0 dj hmx hmem hmac;go_upto_region 24 with(fail)
      have hb1:=Y9z (Below.refl wr.heap.size wr) (Z00 _) (.cells #[.int .i64 (mac:Int),.int .i64 m.name,.int .i64 m.desc,.slice m.A m.n m.c] 43);have Wd:=bx (Bk.new wr 43 #[.int .i64 (mac:Int),.int .i64 m.name,.int .i64 m.desc,.slice m.A m.n m.c]);have Yz:=bx (Zs.out.2.2.2.2.2.below hb1);have Yb:=bx (Zs.out.2.2.2.2.1.step hb1);have Mv:=bx (Zs.out.2.2.1.below hb1 Zs.out.2.2.1.lt);have Cn:=bx (Zs.out.2.2.2.1.below hb1 Zs.out.2.2.2.1.lt);have Pr:=bx Zs.out.2.1;have Wp:=bx Zs.out.1;obtain⟨w13,hw13⟩:∃w13,wr.alloc (.cells #[.int .i64 (mac:Int),.int .i64 m.name,.int .i64 m.desc,.slice m.A m.n m.c] 43)=w13:=⟨_,rfl⟩;obtain⟨g11,hg11⟩:∃g11,wr.heap.size=g11:=⟨_,rfl⟩;rw[hw13,hg11]at Wd;rw[hw13]at Yz Yb Mv Cn;rw[hw13,hg11]
      have Md:Bx (MmB w13 w13.heap.size m):=bx (by
       have h1:=(Z4.out.below (B':=wr.heap.size) hb1 (Z12 Zs.out.2.2.2.2.2.vw.lt)).more (Z08 (Z12 Zs.out.2.2.2.2.2.vw.lt) hb1.size)
       rwa [hw13]at h1)
      clear hw13 hg11 hb1 Zs Z4 e0 e1 e2 e3;have f0:w13.cell? ⟨g11,0,none⟩=some (.int .i64 (mac:Int)):=(Wd.out.cell 0).trans rfl;have f1:w13.cell? ⟨g11,1,none⟩=some (.int .i64 m.name):=(Wd.out.cell 1).trans rfl;have f2:w13.cell? ⟨g11,2,none⟩=some (.int .i64 m.desc):=(Wd.out.cell 2).trans rfl;have f3:w13.cell? ⟨g11,3,none⟩=some (.slice m.A m.n m.c):=(Wd.out.cell 3).trans rfl;have hg11:=Wd.out.lt;go_wp2_with fail
      refine X6k m mac Yz.out.vw Md.out Nq.out hmac2 Cm.out ?_ ?_
      ·intro h wq hb
       have HX:=bx (Zw.out wq (Pr.out.stop Xc.out h) (Yz.out.ch.trans (Ch.of_below (S:=OneR gv) hb) (fun _ _ e=>e)));go_wp2;exact⟨rfl,HX.out⟩
      intro f hf w14 hb14;have Gz:Bx (fldK x.p.pool ifc m.p=some f):=bx hf;have hft:=X0o hf;have Np:Bx (f.name.length≤2000000∧f.desc.length≤2000000):=bx ⟨txt_len Yz.out.vw.txt hft.1,txt_len Yz.out.vw.txt hft.2⟩;have Sw:=bx (prKey (f.name,f.desc) Np.out.1 Np.out.2);have Zj:=bx (Yz.out.below hb14);have Si:=bx (Yb.out.step hb14);have Qd:=bx (Mv.out.below hb14 Mv.out.lt);have Fl:=bx (Cn.out.below hb14 Cn.out.lt);clear hf hft hb14 Yz Yb Mv Cn Wd Md f0 f1 f2 f3 hg11 Cm Nq;go_upto_region 25 with(fail)
      have hb2:=Y9z (Below.refl w14.heap.size w14) (Z00 _) (.cells #[.int .i64 f.access,.string ⟨f.name.toArray⟩,.string ⟨f.desc.toArray⟩,.int .i64 f.const] 61);have Wd:=bx (Bk.new w14 61 #[.int .i64 f.access,.string ⟨f.name.toArray⟩,.string ⟨f.desc.toArray⟩,.int .i64 f.const]);have Zo:=bx (Zj.out.below hb2);have Na:=bx (Si.out.step hb2);have Rv:=bx (Qd.out.below hb2 Qd.out.lt);have Fk:=bx (Fl.out.below hb2 Fl.out.lt);obtain⟨w15,hw15⟩:∃w15,w14.alloc (.cells #[.int .i64 f.access,.string ⟨f.name.toArray⟩,.string ⟨f.desc.toArray⟩,.int .i64 f.const] 61)=w15:=⟨_,rfl⟩;obtain⟨g12,hg12⟩:∃g12,w14.heap.size=g12:=⟨_,rfl⟩;rw[hw15,hg12]at Wd;rw[hw15]at Zo Na Rv Fk;rw[hw15,hg12];have No:Bx (g8+2≤g12∧g5<g8∧w.heap.size≤g5):=bx (by rw[←hg12];have:=Zj.out.od;omega);clear hw15 hg12 hb2 Zj Si Qd Fl;have f1:w15.cell? ⟨g12,1,none⟩=some (.string ⟨f.name.toArray⟩):=(Wd.out.cell 1).trans rfl;have f2:w15.cell? ⟨g12,2,none⟩=some (.string ⟨f.desc.toArray⟩):=(Wd.out.cell 2).trans rfl;have hg12:=Wd.out.lt;obtain⟨q,hq⟩:∃q,memB9 keyF fs (f.name,f.desc)=q:=⟨_,rfl⟩;have Ja:=bx (Y3l hq);have HQ:Bx ((fs.map keyF).contains (keyF f)=q):=bx hq;clear hq;go_wp2_with (at_lookup;refine Y7c rfl (.tmp 160) (.tmp 165) _ rfl 4 prKd Tryd.underlying101 (.bool false) (Y6f _) rfl Rv.out (f.name,f.desc) _ rfl Sw.out ?_;rw[Ja.out])
      cases q with
      | true=>have HX:=bx (Zw.out w15 (Pr.out.twice Xc.out Gz.out HQ.out) Zo.out.ch);refine Y9w _ (fun _=>?_) (fun e=>by cases e);go_wp2;exact⟨rfl,HX.out⟩
      | false=>
      refine Y9w _ (fun e=>by cases e) (fun _=>?_);have hj8:j<maxLen:=by unfold maxLen;omega
      go_upto_region 26 with(fail)
      go_upto_region 27 with(at_mapUpdate;refine Y8l rfl (.tmp 169) (.tmp 174) _ _ rfl 4 prKd Tryd.underlying101 rfl Rv.out X3p hj8 (f.name,f.desc) (.bool true) _ rfl rfl Sw.out ?_;intro w16 hM16 hg16)
      have hch:=Ch.of_grown (S:=OneR g8) hg16 (fun k e=>by injection e with e;exact e.symm);have Zk:=bx (Zo.out.step hch (fun k e => .inl e));have Ro:=bx (Na.out.one hch (by omega));have Mc:Bx (MapT prV w16 Tryd.prog 104 g8 (j+1) (SeenG (memB9 keyF (fs++[f])))):=bx (hM16.ext (fun k=>Y4d keyF fs f k));have Z3:=bx (Fk.out.grown hg16 (fun e=>by injection e with e;omega));have Wo:=bx (Wd.out.ch hch (fun e=>by have e:g12=g8:=e;have:=No.out;omega));have P1:=bx (Pr.out.next Xc.out Gz.out HQ.out);have c4:w16.cell? ⟨g5,4,none⟩=some (.slice A' n' c'):=Zk.out.cell rfl;have hg5:=Zk.out.k5.lt;have hg12b:=Wo.out.lt;have f0:w16.cell? ⟨g12,0,none⟩=some (.int .i64 f.access):=(Wo.out.cell 0).trans rfl;have f1:w16.cell? ⟨g12,1,none⟩=some (.string ⟨f.name.toArray⟩):=(Wo.out.cell 1).trans rfl;have f2:w16.cell? ⟨g12,2,none⟩=some (.string ⟨f.desc.toArray⟩):=(Wo.out.cell 2).trans rfl;have f3:w16.cell? ⟨g12,3,none⟩=some (.int .i64 f.const):=(Wo.out.cell 3).trans rfl;have hba:=Y9z (Below.refl w16.heap.size w16) (Z00 _) (.cells #[.int .i64 f.access,.string ⟨f.name.toArray⟩,.string ⟨f.desc.toArray⟩,.int .i64 f.const] 61);have Mz:=bx (Zk.out.below hba);have Ko:=bx (Ro.out.alloc (.cells #[.int .i64 f.access,.string ⟨f.name.toArray⟩,.string ⟨f.desc.toArray⟩,.int .i64 f.const] 61));have Fi:=bx (Mc.out.alloc (.cells #[.int .i64 f.access,.string ⟨f.name.toArray⟩,.string ⟨f.desc.toArray⟩,.int .i64 f.const] 61));have O9:=bx (Z3.out.alloc (.cells #[.int .i64 f.access,.string ⟨f.name.toArray⟩,.string ⟨f.desc.toArray⟩,.int .i64 f.const] 61));have Zd:=bx (RS.new (fC:=flC) w16 f #[.int .i64 f.access,.string ⟨f.name.toArray⟩,.string ⟨f.desc.toArray⟩,.int .i64 f.const] rfl 61 (0,0));have Ke:Bx ((fs.length+[f].length)*48≤140737488355328):=bx (by simp only[Z11,Z13];have:=Wp.out;omega);have hza:g8+2≤(w16.alloc (.cells #[.int .i64 f.access,.string ⟨f.name.toArray⟩,.string ⟨f.desc.toArray⟩,.int .i64 f.const] 61)).heap.size:=Mz.out.od.2.2.2.2.2;clear hM16 hg16 hch Zo Na Rv Fk Zk Ro Mc Z3 hba Ja Sw HQ hj8 Wd Wo Pr;go_wp2_with (at_builtin;refine Y9y _ flCels rfl (.tmp 176) (.tmp 178) rfl flTy (by decide) (g8+2) (.slice A' n' c') fs rfl Ko.out (w16.heap.size+1) (some ⟨w16.heap.size,0,none⟩) 1 1 [f] rfl rfl Zd.out Ke.out hza ?_;intro V10 w10 hO10 hg10 hv10 hb10;obtain⟨A'',c'',e',_,_⟩:=hO10.rd;obtain⟨n'',hn'⟩:∃n'',(fs++[f]).length=n'':=⟨_,rfl⟩;rw[hn']at e';subst e';have hcho:=Ch.of_low hb10;have Pf:=bx (Mz.out.step hcho (fun k e => .inr e));have O8:=bx (Fi.out.below hb10 (by omega));have HMd:=bx (O9.out.below hb10 (by omega));have Z7:=bx hO10;have hcl:w10.cell? ⟨g5,4,none⟩=some (.slice A' n' c'):=Pf.out.cell rfl;have hfz:=Pf.out.k5.frz 4;have hg5b:=Pf.out.k5.lt)
      go_roundw
      case rel=>exact⟨j+1,fs++[f],A'',n'',c'',by omega,by go_num,bx ⟨by rw[Z09];have:=Wp.out;simp only[Z11,Z13];omega,P1.out,O8.out.setCell (fun e=>by have e:g8=g5:=e;have:=No.out;omega) _,HMd.out.setCell (fun e=>by have e:g8+1=g5:=e;have:=No.out;omega) _,Z7.out.far (by have:=No.out;omega),Pf.out.set5 4 _⟩⟩
      case measure=>simp [intOf];omega
     ·have hjI:¬(j:Int)<(fN:Int):=by omega
      have HE:Bx (eachK (fldK x.p.pool ifc) keyF x.p.fields []=some fs):=bx (by have h1:=Zs.out.2.1;rw[show j=x.p.fields.length by show j=(x.fs.map MmE.p).length;rw[Z17,Kd.out];omega]at h1;exact h1.done);have Qf:Bx (R=(eachK (mthK x.p.pool ifc) (fun f=>(f.name,f.desc)) x.p.methods []).map fun ms=>⟨(acn:Int),nm,su,ss,fs,ms⟩):=bx (by have h2:eachK (fldK x.p.pool ifc) (fun f=>(f.name,f.desc)) x.p.fields []=some fs:=HE.out;rw[Sz.out,h2];rfl);have Xg:=bx Zs.out.2.2.2.2.2;have Z6:=bx Zs.out.2.2.2.2.1;have Xt:=bx Zs.out.2.2.2.1;clear Zs HE Sz;go_upto_region 29 with(fail)
      rename World=>w20
      obtain⟨gb,hgb⟩:∃gb,w20.heap.size=gb:=⟨_,rfl⟩
      have Mb:Bx (Krs w w20 gv g2 g5 (g8+1) gb x ifc (klA acn nm su (.slice A n c) (.slice A' n' c') (.slice none 0 0) (.slice A7 n7 c7)) ⟨acn,nm,su,⟨A,n,c,ss⟩,⟨A',n',c',fs⟩,sq0,⟨A7,n7,c7,x.pool⟩⟩):=bx (by
       have ho:=Xg.out.od;have hnc:=fun p hp=>Xt.out.nocell p hp;have hlt:=Xt.out.lt;refine⟨Xg.out.vw,Xg.out.k2,Xg.out.k5,Xg.out.ch,⟨?_,?_,SqX.nil,(fun m hm=>by cases hm),?_⟩,⟨ho.1,ho.2.1,ho.2.2.1,by omega,by omega,by omega⟩⟩
       ·exact(Xg.out.fx.ifs.nomap hnc).step (fun _ _=>rfl) (fun k hk=>⟨hk.1.1,by have:=hk.1.2.1;omega,hk.2,hk.1.2.2.2⟩)
       ·exact SqX.of Z6.out (fun k h1 h2=>⟨by omega,by omega,by omega,by omega⟩)
       ·exact(Xg.out.fx.pool.nomap hnc).step (fun _ _=>rfl) (fun k hk=>⟨hk.1.1,by have:=hk.1.2.1;omega,hk.2,hk.1.2.2.2⟩))
      have Cl:Bx (g8+1<gb∧g5<g8∧w.heap.size≤g5):=bx (by have h1:=Xg.out.od;have h2:=Xt.out.lt;omega);clear Xg Z6 hgb;obtain⟨mN,hmN⟩:∃mN,x.mn=mN:=⟨_,rfl⟩;obtain⟨mA,hmA⟩:∃mA,x.mA=mA:=⟨_,rfl⟩;have c8_:w20.cell? ⟨gv,8,none⟩=some (.slice mA mN x.mc):=by rw[←hmA,←hmN];exact(Mb.out.vw.box.cell 8).trans rfl
      have Gc:Bx (x.ms.length=mN):=bx (by rw[←hmN];exact Mb.out.vw.im.ml.1);have Z2:=bx hmA;have hmN2:mN≤100000000:=by rw[←hmN];exact HI.out.ms.1
      have hgv20:=Mb.out.vw.lt;clear hmN hmA;go_wp2_with fail
      go_loopw [188] (fun iv wx=>∃(i:Nat) (ms:List MtE) (B:Option Addr) (k d:Nat),i≤mN∧iv = .int .i64 (i:Int)∧Bx (ms.length≤i∧EachI (mthK x.p.pool ifc) keyM x.p.methods i (ms.map MtE.p)∧MapT prV wx Tryd.prog 104 (g8+1) i (SeenG (memB9 keyM (ms.map MtE.p)))∧OwX mtC 9 MtX wx gb 51 (.slice B k d) ms∧Krs w wx gv g2 g5 (g8+1) gb x ifc (klA acn nm su (.slice A n c) (.slice A' n' c') (.slice B k d) (.slice A7 n7 c7)) ⟨acn,nm,su,⟨A,n,c,ss⟩,⟨A',n',c',fs⟩,sq0,⟨A7,n7,c7,x.pool⟩⟩)) (fun iv _=>mN-(intOf iv).toNat)
      case atStart=>exact⟨0,[],none,0,0,by omega,rfl,bx ⟨Z00 _,EachI.start,Xt.out,OwX.nil,Mb.out⟩⟩
      case round=>
       obtain⟨j,ms,B,k,d,hj,rfl,Zs⟩:=hrel;clear c8_ hgv20 Mb Xt;by_cases hjn:j<mN
       ·have hjI:(j:Int)<(mN:Int):=by omega
        have hstop:∀wq,eachK (mthK x.p.pool ifc) keyM x.p.methods []=none→Ch w wq (OneR gv)→KrdP w gv x.p.pool R (.panicked brkC) wq:=fun wq h c=>Yh.out _ (by rw[Qf.out];show (eachK (mthK x.p.pool ifc) keyM x.p.methods []).map _=none;rw[h];rfl) c;have Zw:=bx hstop;clear hstop;obtain⟨ad,m,hA,hab,hmx,d0,dj⟩:=Zs.out.2.2.2.2.vw.im.ms.1.at_ memCels (k:=j) (by rw[Gc.out];exact hjn);rw[Z2.out]at hA;subst hA;have hmem:=Z16 hmx.out;have Xc:Bx (x.p.methods[j]? = some m.p):=bx (by show (x.ms.map MmE.p)[j]? = _;rw[List.getElem?_map,hmx.out];rfl);obtain⟨mac,hmac⟩:=Z44 (HI.out.ms.2 m hmem).1;have hmac2:mac<65536:=by have:=(HI.out.ms.2 m hmem).2.1;omega
        have Cm:=bx (HI.out.ms.2 m hmem).2.2;have Z4:=bx (Zs.out.2.2.2.2.vw.im.ms.2 m hmem);have e0:wr.cell? (ad.add (j*4))=some (.int .i64 (mac:Int)):=by rw[←show m.access=(mac:Int) from hmac];exact d0 _ rfl
        have e1:=dj 0 _ rfl;have e2:=dj 1 _ rfl;have e3:=dj 2 _ rfl;simp only[Z22,Nat.reduceAdd]at e1 e2 e3;have Nq:Bx (m.access=(mac:Int)):=bx hmac;clear d0 dj hmx hmem hmac;go_upto_region 32 with(fail)
        have hb1:=Y9z (Below.refl wr.heap.size wr) (Z00 _) (.cells #[.int .i64 (mac:Int),.int .i64 m.name,.int .i64 m.desc,.slice m.A m.n m.c] 43);have Wd:=bx (Bk.new wr 43 #[.int .i64 (mac:Int),.int .i64 m.name,.int .i64 m.desc,.slice m.A m.n m.c]);have Yz:=bx (Zs.out.2.2.2.2.below hb1);have Yb:=bx (OwX.step (P:=MtX) mtStep Zs.out.2.2.2.1 hb1);have Mv:=bx (Zs.out.2.2.1.below hb1 Zs.out.2.2.1.lt);have Pr:=bx Zs.out.2.1;have Wp:=bx Zs.out.1;obtain⟨w13,hw13⟩:∃w13,wr.alloc (.cells #[.int .i64 (mac:Int),.int .i64 m.name,.int .i64 m.desc,.slice m.A m.n m.c] 43)=w13:=⟨_,rfl⟩;obtain⟨g11,hg11⟩:∃g11,wr.heap.size=g11:=⟨_,rfl⟩;rw[hw13,hg11]at Wd;rw[hw13]at Yz Yb Mv;rw[hw13,hg11]
        have Md:Bx (MmB w13 w13.heap.size m):=bx (by
         have h1:=(Z4.out.below (B':=wr.heap.size) hb1 (Z12 Zs.out.2.2.2.2.vw.lt)).more (Z08 (Z12 Zs.out.2.2.2.2.vw.lt) hb1.size)
         rwa [hw13]at h1)
        clear hw13 hg11 hb1 Zs Z4 e0 e1 e2 e3;have f0:w13.cell? ⟨g11,0,none⟩=some (.int .i64 (mac:Int)):=(Wd.out.cell 0).trans rfl;have f1:w13.cell? ⟨g11,1,none⟩=some (.int .i64 m.name):=(Wd.out.cell 1).trans rfl;have f2:w13.cell? ⟨g11,2,none⟩=some (.int .i64 m.desc):=(Wd.out.cell 2).trans rfl;have f3:w13.cell? ⟨g11,3,none⟩=some (.slice m.A m.n m.c):=(Wd.out.cell 3).trans rfl;have hg11:=Wd.out.lt;go_wp2_with fail
        refine X8i m mac Yz.out.vw Md.out Nq.out hmac2 Cm.out.1 Cm.out.2 ?_ ?_
        ·intro h wq hb
         have HX:=bx (Zw.out wq (Pr.out.stop Xc.out h) (Yz.out.ch.trans (Ch.of_below (S:=OneR gv) hb) (fun _ _ e=>e)));go_wp2;exact⟨rfl,HX.out⟩
        intro f hf w14 hb14 y B1 B2 B3 m1 m2 m3 d1 d2 d3 hy hmx hmc;have Gz:Bx (mthK x.p.pool ifc m.p=some f):=bx hf;have hft:=X1h (x:=m.p) Nq.out hf;have Np:Bx (f.name.length≤2000000∧f.desc.length≤2000000):=bx ⟨txt_len Yz.out.vw.txt hft.1,txt_len Yz.out.vw.txt hft.2⟩;have Sw:=bx (prKey (f.name,f.desc) Np.out.1 Np.out.2);have Zj:=bx (Yz.out.below hb14);have Si:=bx (OwX.step (P:=MtX) mtStep Yb.out hb14);have Qd:=bx (Mv.out.below hb14 Mv.out.lt);have HY:=bx hy;have Sb:=bx hmc;have U3:Bx (MtX w14 (Nw w13 w14) y):=bx hmx;have Z1:Bx (gb≤w13.heap.size):=bx Yz.out.od.2.2.2.2.2;have HOW:Bx (∀q,(Value.slice B k d).ownBlock=some q→q<w13.heap.size):=bx (fun q e=>(Yb.out.own.blk e).2);clear hf hft hb14 Yz Yb Mv Wd Md f0 f1 f2 f3 hg11 Cm Nq hy hmx hmc;go_upto_region 33 with(fail)
        have hb2:=Y9z (Below.refl w14.heap.size w14) (Z00 _) (.cells #[.int .i64 y.access,.string ⟨f.name.toArray⟩,.string ⟨f.desc.toArray⟩,.bool y.there,.int .i64 y.stack,.int .i64 y.locals,.slice B1 m1 d1,.slice B2 m2 d2,.slice B3 m3 d3] 51);have Wd:=bx (Bk.new w14 51 #[.int .i64 y.access,.string ⟨f.name.toArray⟩,.string ⟨f.desc.toArray⟩,.bool y.there,.int .i64 y.stack,.int .i64 y.locals,.slice B1 m1 d1,.slice B2 m2 d2,.slice B3 m3 d3]);have Zo:=bx (Zj.out.below hb2);have Na:=bx (OwX.step (P:=MtX) mtStep Si.out hb2);have Rv:=bx (Qd.out.below hb2 Qd.out.lt);have Fh:=bx (U3.out.step (Y:=Nw w13 (w14.alloc (.cells #[.int .i64 y.access,.string ⟨f.name.toArray⟩,.string ⟨f.desc.toArray⟩,.bool y.there,.int .i64 y.stack,.int .i64 y.locals,.slice B1 m1 d1,.slice B2 m2 d2,.slice B3 m3 d3] 51))) (fun k hk=>hb2.block k hk.2) (fun k hk=>⟨hk.1,Z07 hk.2 hb2.size⟩));obtain⟨w15,hw15⟩:∃w15,w14.alloc (.cells #[.int .i64 y.access,.string ⟨f.name.toArray⟩,.string ⟨f.desc.toArray⟩,.bool y.there,.int .i64 y.stack,.int .i64 y.locals,.slice B1 m1 d1,.slice B2 m2 d2,.slice B3 m3 d3] 51)=w15:=⟨_,rfl⟩;obtain⟨g12,hg12⟩:∃g12,w14.heap.size=g12:=⟨_,rfl⟩;rw[hw15,hg12]at Wd;rw[hw15]at Zo Na Rv Fh;rw[hw15,hg12];have No:Bx (gb≤g12):=bx (by rw[←hg12];exact Zj.out.od.2.2.2.2.2);clear hw15 hg12 hb2 Zj Si Qd U3;have f1:w15.cell? ⟨g12,1,none⟩=some (.string ⟨f.name.toArray⟩):=(Wd.out.cell 1).trans rfl;have f2:w15.cell? ⟨g12,2,none⟩=some (.string ⟨f.desc.toArray⟩):=(Wd.out.cell 2).trans rfl;have hg12:=Wd.out.lt;obtain⟨q,hq⟩:∃q,memB9 keyM (ms.map MtE.p) (f.name,f.desc)=q:=⟨_,rfl⟩;have Ja:=bx (Y3l hq);have HQ:Bx (((ms.map MtE.p).map keyM).contains (keyM f)=q):=bx hq;clear hq;go_wp2_with (at_lookup;refine Y7c rfl (.tmp 195) (.tmp 200) _ rfl 4 prKd Tryd.underlying101 (.bool false) (Y6f _) rfl Rv.out (f.name,f.desc) _ rfl Sw.out ?_;rw[Ja.out])
        cases q with
        | true=>have HX:=bx (Zw.out w15 (Pr.out.twice Xc.out Gz.out HQ.out) Zo.out.ch);refine Y9w _ (fun _=>?_) (fun e=>by cases e);go_wp2;exact⟨rfl,HX.out⟩
        | false=>
        refine Y9w _ (fun e=>by cases e) (fun _=>?_);have hj8:j<maxLen:=by unfold maxLen;omega
        go_upto_region 34 with(fail)
        go_upto_region 35 with(at_mapUpdate;refine Y8l rfl (.tmp 204) (.tmp 209) _ _ rfl 4 prKd Tryd.underlying101 rfl Rv.out X3p hj8 (f.name,f.desc) (.bool true) _ rfl rfl Sw.out ?_;intro w16 hM16 hg16)
        have hch:=Ch.of_grown (S:=OneR (g8+1)) hg16 (fun k e=>by injection e with e;exact e.symm);have Zk:=bx (Zo.out.step hch (fun k e => .inl e));have Ro:=bx (OwX.one (P:=MtX) mtStep Na.out hch Cl.out.1);have E5:Bx ((ms++[y]).map MtE.p=ms.map MtE.p++[f]):=bx (by rw[Z34,←HY.out];rfl);have Mc:Bx (MapT prV w16 Tryd.prog 104 (g8+1) (j+1) (SeenG (memB9 keyM ((ms++[y]).map MtE.p)))):=bx (by rw[E5.out];exact hM16.ext (fun k=>Y4d keyM (ms.map MtE.p) f k));have Wo:=bx (Wd.out.ch hch (fun e=>by have e:g12=g8+1:=e;have:=No.out;have:=Cl.out;omega));have Z0:=bx (Fh.out.step (Y:=Nw w13 w16) (fun k hk=>hch.same k hk.2 (fun e=>by have e:k=g8+1:=e;have:=hk.1;have:=Z1.out;have:=Cl.out;omega)) (fun k hk=>⟨hk.1,Z07 hk.2 hch.size⟩));have P1:Bx (EachI (mthK x.p.pool ifc) keyM x.p.methods (j+1) ((ms++[y]).map MtE.p)):=bx (by rw[E5.out];exact Pr.out.next Xc.out Gz.out HQ.out);have c5:w16.cell? ⟨g5,5,none⟩=some (.slice B k d):=Zk.out.cell rfl;have hg5:=Zk.out.k5.lt;have hg12b:=Wo.out.lt;have f0:w16.cell? ⟨g12,0,none⟩=some (.int .i64 y.access):=(Wo.out.cell 0).trans rfl;have f1:w16.cell? ⟨g12,1,none⟩=some (.string ⟨f.name.toArray⟩):=(Wo.out.cell 1).trans rfl;have f2:w16.cell? ⟨g12,2,none⟩=some (.string ⟨f.desc.toArray⟩):=(Wo.out.cell 2).trans rfl;have f3:w16.cell? ⟨g12,3,none⟩=some (.bool y.there):=(Wo.out.cell 3).trans rfl;have f4:w16.cell? ⟨g12,4,none⟩=some (.int .i64 y.stack):=(Wo.out.cell 4).trans rfl;have f5:w16.cell? ⟨g12,5,none⟩=some (.int .i64 y.locals):=(Wo.out.cell 5).trans rfl;have f6:w16.cell? ⟨g12,6,none⟩=some (.slice B1 m1 d1):=(Wo.out.cell 6).trans rfl;have f7:w16.cell? ⟨g12,7,none⟩=some (.slice B2 m2 d2):=(Wo.out.cell 7).trans rfl;have f8:w16.cell? ⟨g12,8,none⟩=some (.slice B3 m3 d3):=(Wo.out.cell 8).trans rfl;have hba:=Y9z (Below.refl w16.heap.size w16) (Z00 _) (.cells #[.int .i64 y.access,.string ⟨f.name.toArray⟩,.string ⟨f.desc.toArray⟩,.bool y.there,.int .i64 y.stack,.int .i64 y.locals,.slice B1 m1 d1,.slice B2 m2 d2,.slice B3 m3 d3] 51);have Mz:=bx (Zk.out.below hba);have Ko:=bx (OwX.step (P:=MtX) mtStep Ro.out hba);have Fi:=bx (Mc.out.alloc (.cells #[.int .i64 y.access,.string ⟨f.name.toArray⟩,.string ⟨f.desc.toArray⟩,.bool y.there,.int .i64 y.stack,.int .i64 y.locals,.slice B1 m1 d1,.slice B2 m2 d2,.slice B3 m3 d3] 51));have Zd:=bx (RS.new (fC:=mtC) w16 y #[.int .i64 y.access,.string ⟨f.name.toArray⟩,.string ⟨f.desc.toArray⟩,.bool y.there,.int .i64 y.stack,.int .i64 y.locals,.slice B1 m1 d1,.slice B2 m2 d2,.slice B3 m3 d3] Sb.out.symm 51 (0,0));have Yd:Bx (∀z∈[y],MtX (w16.alloc (.cells #[.int .i64 y.access,.string ⟨f.name.toArray⟩,.string ⟨f.desc.toArray⟩,.bool y.there,.int .i64 y.stack,.int .i64 y.locals,.slice B1 m1 d1,.slice B2 m2 d2,.slice B3 m3 d3] 51)) (Bff gb (w16.alloc (.cells #[.int .i64 y.access,.string ⟨f.name.toArray⟩,.string ⟨f.desc.toArray⟩,.bool y.there,.int .i64 y.stack,.int .i64 y.locals,.slice B1 m1 d1,.slice B2 m2 d2,.slice B3 m3 d3] 51)) (.slice B k d)) z):=bx (fun z hz=>by have e:z=y:=(by simpa using hz);subst e;exact Z0.out.step (fun k hk=>hba.block k hk.2) (fun k hk=>⟨Z08 Z1.out hk.1,Z07 hk.2 hba.size,fun e=>by have:=HOW.out k e;have:=hk.1;omega⟩));have Ke:Bx ((ms.length+[y].length)*136≤140737488355328):=bx (by simp only[Z11,Z13];have:=Wp.out;omega);have hza:gb≤(w16.alloc (.cells #[.int .i64 y.access,.string ⟨f.name.toArray⟩,.string ⟨f.desc.toArray⟩,.bool y.there,.int .i64 y.stack,.int .i64 y.locals,.slice B1 m1 d1,.slice B2 m2 d2,.slice B3 m3 d3] 51)).heap.size:=Mz.out.od.2.2.2.2.2;clear hM16 hg16 hch Zo Na Rv Zk Ro Mc hba Ja Sw HQ hj8 Wd Wo Pr Fh Z0;go_wp2_with (at_builtin;refine Y9y _ mtCels rfl (.tmp 211) (.tmp 213) rfl mtTy (by decide) gb (.slice B k d) ms rfl Ko.out.own (w16.heap.size+1) (some ⟨w16.heap.size,0,none⟩) 1 1 [y] rfl rfl Zd.out Ke.out hza ?_;intro V10 w10 hO10 hg10 hv10 hb10;obtain⟨A'',c'',e',_,_⟩:=hO10.rd;obtain⟨n'',hn'⟩:∃n'',(ms++[y]).length=n'':=⟨_,rfl⟩;rw[hn']at e';subst e';have hcho:=Ch.of_low hb10;have Pf:=bx (Mz.out.step hcho (fun k e => .inr e));have O8:=bx (Fi.out.below hb10 Cl.out.1);have Z7:=bx (OwX.app (P:=MtX) mtStep Ko.out Yd.out hO10 hg10 hv10);have hcl:w10.cell? ⟨g5,5,none⟩=some (.slice B k d):=Pf.out.cell rfl;have hfz:=Pf.out.k5.frz 5;have hg5b:=Pf.out.k5.lt)
        go_roundw
        case rel=>have hc9:Ch w10 (w10.setCell ⟨g5,5,none⟩ (.slice A'' n'' c'')) (OneR g5):=Ch.one;exact⟨j+1,ms++[y],A'',n'',c'',by omega,by go_num,bx ⟨by rw[Z09];have:=Wp.out;simp only[Z11,Z13];omega,P1.out,O8.out.setCell (fun e=>by have e:g8+1=g5:=e;have:=Cl.out;omega) _,OwX.one (P:=MtX) mtStep Z7.out hc9 (by have:=Cl.out;omega),Pf.out.set5 5 _⟩⟩
        case measure=>simp [intOf];omega
       ·have hjI:¬(j:Int)<(mN:Int):=by omega
        have HX:Bx (R=some ⟨(acn:Int),nm,su,ss,fs,ms.map MtE.p⟩):=bx (by have h1:=Zs.out.2.1;rw[show j=x.p.methods.length by show j=(x.ms.map MmE.p).length;rw[Z17,Gc.out];omega]at h1;have h2:eachK (mthK x.p.pool ifc) (fun f=>(f.name,f.desc)) x.p.methods []=some (ms.map MtE.p):=h1.done;rw[Qf.out,h2];rfl);have Xg:=bx Zs.out.2.2.2.2;have U2:=bx Zs.out.2.2.2.1;clear Zs Qf;have e0:wr.cell? ⟨g5,0,none⟩=some (.int .i64 (acn:Int)):=Xg.out.cell rfl;have e1:wr.cell? ⟨g5,1,none⟩=some (strQ nm):=Xg.out.cell rfl;have e2:wr.cell? ⟨g5,2,none⟩=some (strQ su):=Xg.out.cell rfl;have e3:wr.cell? ⟨g5,3,none⟩=some (.slice A n c):=Xg.out.cell rfl;have e4:wr.cell? ⟨g5,4,none⟩=some (.slice A' n' c'):=Xg.out.cell rfl;have e5:wr.cell? ⟨g5,5,none⟩=some (.slice B k d):=Xg.out.cell rfl;have e6:wr.cell? ⟨g5,6,none⟩=some (.slice A7 n7 c7):=Xg.out.cell rfl;have hg5:=Xg.out.k5.lt;go_wp2_with (refine wpList_store_row rfl 27 (.tmp 2) (.tmp 217) rfl g2 (klA acn nm su (.slice A n c) (.slice A' n' c') (.slice B k d) (.slice A7 n7 c7)) rfl rfl 27 z7 Xg.out.k2 Y9h rfl (Y6n _ _ _ _ _ _ _ _ _ _ _ _ _ _ _) ?_)
        have hb4:=Xg.out.k2.setRow (klA acn nm su (.slice A n c) (.slice A' n' c') (.slice B k d) (.slice A7 n7 c7));unfold klA at hb4 ⊢;have d0:=hb4.cell 0;have d1:=hb4.cell 1;have d2:=hb4.cell 2;have d3:=hb4.cell 3;have d4:=hb4.cell 4;have d5:=hb4.cell 5;have d6:=hb4.cell 6;simp only[Z19,List.getElem?_cons_zero,Z21]at d0 d1 d2 d3 d4 d5 d6;rw[HX.out];refine bodyPost_ret (v := .agg (klA acn nm su (.slice A n c) (.slice A' n' c') (.slice B k d) (.slice A7 n7 c7))) (by simp [klA,results,Tryd.results17,go_sem,d0,d1,d2,d3,d4,d5,d6]) rfl ⟨⟨⟨acn,nm,su,⟨A,n,c,ss⟩,⟨A',n',c',fs⟩,⟨B,k,d,ms⟩,⟨A7,n7,c7,x.pool⟩⟩,rfl,rfl,?_,rfl⟩,?_⟩
        ·have ho:=Xg.out.od
         have hS:∀(cs:Array Value) (q:Nat),g2<q→q<wr.heap.size→(wr.setRow g2 cs).heap[q]? = wr.heap[q]? := fun cs q h1 h2=>(Y9t wr g2 cs).same q h2 (fun e=>by have e:q=g2:=e;omega);have hZ:∀cs:Array Value,wr.heap.size≤(wr.setRow g2 cs).heap.size:=fun cs=>(Y9t wr g2 cs).size;refine⟨Xg.out.fx.ifs.step (fun q hq=>hS _ q hq.1 (by omega)) (fun q hq=>⟨by omega,Z07 (by omega) (hZ _)⟩),Xg.out.fx.fls.step (fun q hq=>hS _ q hq.1 (by omega)) (fun q hq=>⟨by omega,Z07 (by omega) (hZ _)⟩),(SqX.of U2.out.own (X:=fun q=>gb≤q∧q<wr.heap.size) (fun q h1 h2=>⟨h1,h2⟩)).step (fun q hq=>hS _ q (by omega) hq.2) (fun q hq=>⟨by omega,Z07 hq.2 (hZ _)⟩),(fun m hm=>(U2.out.sub m hm).step (fun q hq=>hS _ q (by have:=hq.1;omega) hq.2.1) (fun q hq=>⟨by have:=hq.1;omega,Z07 hq.2.1 (hZ _)⟩)),Xg.out.fx.pool.step (fun q hq=>hS _ q hq.1 (by omega)) (fun q hq=>⟨by omega,Z07 (by omega) (hZ _)⟩)⟩
        ·exact Xg.out.ch.trans (Y9t wr g2 _) (fun k hk e=>by have e:k=g2:=e;have:=Zc.out;omega)
end Go.Proofs.YtpmfiegfbmamiaaDoor
