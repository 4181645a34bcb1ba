/- Parts: Plain: a constant as the program asks of it, part by part. A block that is a row of so many cells, each told by its place. Nothing here speaks of the program. Contracts: image.needs, image.small, (image.pool).is. Texts as lists of bytes: equations in the walk's spelling. Units in cells; a text's bytes. name.Units: what it answers. A row of attributes read at a place. A block whose whole row is stored anew. Nothing here speaks of the program. Contracts of the inner functions of name: clean. name.Class: what it answers. Contracts: octet.fits, octet.Big. Contracts of octet.Reader: New, Num, Bytes, Left, Bad. Contracts of octet.Reader, its bytes in blocks from lo on: New, Num, Bytes, Left, Bad. A region that draws its order, walked along a tree that is told ahead: light operations are taken first, one by one; else those that may come up are run, each with a tree of its own behind it; ways by a panic are borne. Nothing here speaks of the program. Part of XNameC: without the document's side. name.head: what it answers. Part of XNameE: without the document's side. Part of XNameF: without the document's side. Part of XNameFS: without the document's side. Part of XNameFM: without the document's side. name.Method: what it answers. Plain: reading step by step: where a reader stands, what it answered. Plain: what a row of readings says of attributes, members, constants. Plain: what a row of readings says of constants, of the pool, of a class file. Plain: a class file as its parts were read one by one. Class files in memory: what lies beside a growing row of attributes or members. Nothing here speaks of the program. Plain: one round of reading rows. A row of bytes as a text. An empty image's cells. Nothing here speaks of the program. A map's entry opened and stored into, apart (two maps stored into by one statement). Nothing here speaks of the program. Plain facts on the bytes of a number. Several structs that hold one growing row of bytes each, apart from each other. Nothing here speaks of the program. -/
import Derived.Test.YtpmfiegfbmamiaaDoorPm2
import Derived.Test.YtpmfiegfbmamiaaDoorPm1
import Derived.Test.YtpmfiegfbmamiaaDoorProg
import Derived.Outline
import Derived.Deep.DeepCutAuto
import Derived.Deep.CutBlock
import Derived.Lib.Strings
import Derived.Laws.Tables
import Derived.Laws.ResultCell
import Derived.Deep.WholeRow
import Derived.Test.YtpmfiegfbmamiaaDoorPmS
import Derived.Deep.RegionHeld3
import Derived.Deep.RegionHeld
import Derived.Lib.SlBytesConst
import Derived.IntWalk
import Derived.Lib.BufferRead
namespace Go.Proofs.YtpmfiegfbmamiaaDoor
set_option maxRecDepth 100000
set_option maxHeartbeats 4000000
def wantA (k:Int):Option (Int×Int):=if k=1∨k=3∨k=5 then some (0,0) else if k=7∨k=8 then some (1,0) else if k=9∨k=10∨k=11 then some (7,12) else if k=12 then some (1,1) else none
def atOk (pool:List Cst) (w a:Int):Bool:=if w=0 then decide (a=0) else decide (tagP pool a=w)
def restC (c:Cst):Bool:=(decide (c.tag=1)||decide (c.text=[]))&&(decide (c.tag=3)||decide (c.tag=5)||decide (c.num=0))
def lastC (c:Cst):Bool:=if c.tag=1 then uOk c.text&&decide (c.text.length≤65535) else if c.tag=3 then decide (-2147483648≤c.num∧c.num≤2147483647) else true
theorem Y4p (pool:List Cst) (c:Cst):cGood pool c=match wantA c.tag with
  | none=>false
  | some (p,q)=>(atOk pool p c.a&&atOk pool q c.b)&&(restC c&&lastC c):=by
 obtain⟨t,a,b,n,s⟩:=c;have key:∀(t' a' b' n':Int) (s':List UInt8),((⟨t,a,b,n,s⟩:Cst)=⟨t',a',b',n',s'⟩)↔(t=t'∧a=a'∧b=b'∧n=n'∧s=s'):=fun _ _ _ _ _=>by simp
 by_cases h1:t=1
 ·subst h1
  unfold cGood wantA restC lastC atOk;simp only[key];rw[Bool.eq_iff_iff]
  simp
  constructor <;> (intro h;simp_all)
 by_cases h3:t=3
 ·subst h3
  unfold cGood wantA restC lastC atOk;simp only[key];rw[Bool.eq_iff_iff]
  simp
  constructor <;> (intro h;simp_all)
 by_cases h5:t=5
 ·subst h5
  unfold cGood wantA restC lastC atOk;simp only[key];rw[Bool.eq_iff_iff]
  simp
  constructor <;> (intro h;simp_all)
 by_cases h7:t=7∨t=8
 ·have hw:wantA t=some (1,0):=by unfold wantA;rw[if_neg (by omega),if_pos h7]
  show cGood pool ⟨t,a,b,n,s⟩=match wantA t with
   | none=>false
   | some (p,q)=>_
  rw[hw];unfold cGood restC lastC atOk;simp only[key];rw[if_neg h1,if_neg h3,if_neg h5,if_pos h7];rw[Bool.eq_iff_iff];simp [h1,h3,h5]
  constructor <;> (intro h;simp_all)
 by_cases h9:t=9∨t=10∨t=11
 ·have hw:wantA t=some (7,12):=by unfold wantA;rw[if_neg (by omega),if_neg (by omega),if_pos h9]
  show cGood pool ⟨t,a,b,n,s⟩=match wantA t with
   | none=>false
   | some (p,q)=>_
  rw[hw];unfold cGood restC lastC atOk;simp only[key];rw[if_neg h1,if_neg h3,if_neg h5,if_neg h7,if_pos h9];rw[Bool.eq_iff_iff];simp [h1,h3,h5]
  constructor <;> (intro h;simp_all)
 by_cases h12:t=12
 ·subst h12
  unfold cGood wantA restC lastC atOk;simp only[key];rw[Bool.eq_iff_iff]
  simp
  constructor <;> (intro h;simp_all)
 have hw:wantA t=none:=by unfold wantA;rw[if_neg (by omega),if_neg (by omega),if_neg (by omega),if_neg h12]
 show cGood pool ⟨t,a,b,n,s⟩=match wantA t with
  | none=>false
  | some (p,q)=>_
 rw[hw];unfold cGood;rw[if_neg h1,if_neg h3,if_neg h5,if_neg h7,if_neg h9,if_neg h12]
theorem X4h {pool:List Cst} {c:Cst} (h:wantA c.tag=none):cGood pool c=false:=by rw[Y4p,h]
theorem X2z {pool:List Cst} {c:Cst} {p q:Int} (h:wantA c.tag=some (p,q)):cGood pool c=((atOk pool p c.a&&atOk pool q c.b)&&(restC c&&lastC c)):=by rw[Y4p,h]
open Go.RowKit
structure Bx (p:Prop):Prop where out:p
theorem bx {p:Prop} (h:p):Bx p:=⟨h⟩
theorem OwL.sl {α:Type} {f:α→Value} {w:World} {base:Nat} {e:TypeId} {v:Value} {l:List α} (h:OwL f w base e v l):∃A n c,v = .slice A n c∧Bx (n=l.length)∧RL f w w.heap.size A l:=by
 obtain⟨A,c,h1,h2,_⟩:=h.rd;exact⟨A,_,c,h1,⟨rfl⟩,h2⟩
section
variable {w w':World} {g:Nat} {t:TypeId} {n:Nat} {C:Nat→Value}
end
open Go.RowKit
def niV (k:Int):Value := .int .i64 k
theorem intK:Maps.Keyed Tryd.prog 3:=Maps.int_keyed Tryd.underlying3
theorem W7v (x y:Int) (h:niV x=niV y):x=y:=by unfold niV at h;injection h
theorem niKey (k:Int) (h : -9223372036854775808≤k∧k≤9223372036854775807):keyOf Tryd.prog 3 (niV k)=some (.int .i64 k):=by
 refine Maps.keyOf_int_mk Tryd.underlying3 ?_;simp [Lit.wf,show IntKind.i64.min = -9223372036854775808 from rfl,show IntKind.i64.max=9223372036854775807 from rfl];omega
def wantV (x:Int×Int):Value := .agg #[.int .i64 x.1,.int .i64 x.2]
def needG (k:Int):Option Value:=(wantA k).map wantV
theorem Y1k (x:Int):needG x=if x=12 then some (.agg #[.int .i64 1,.int .i64 1]) else if x=11 then some (.agg #[.int .i64 7,.int .i64 12]) else if x=10 then some (.agg #[.int .i64 7,.int .i64 12]) else if x=9 then some (.agg #[.int .i64 7,.int .i64 12])
  else if x=8 then some (.agg #[.int .i64 1,.int .i64 0]) else if x=7 then some (.agg #[.int .i64 1,.int .i64 0]) else if x=5 then some (.agg #[.int .i64 0,.int .i64 0]) else if x=3 then some (.agg #[.int .i64 0,.int .i64 0]) else if x=1 then some (.agg #[.int .i64 0,.int .i64 0]) else none:=by
 by_cases h1:x=1
 ·subst h1;rfl
 by_cases h3:x=3
 ·subst h3;rfl
 by_cases h5:x=5
 ·subst h5;rfl
 by_cases h7:x=7
 ·subst h7;rfl
 by_cases h8:x=8
 ·subst h8;rfl
 by_cases h9:x=9
 ·subst h9;rfl
 by_cases h10:x=10
 ·subst h10;rfl
 by_cases h11:x=11
 ·subst h11;rfl
 by_cases h12:x=12
 ·subst h12;rfl
 rw[if_neg h12,if_neg h11,if_neg h10,if_neg h9,if_neg h8,if_neg h7,if_neg h5,if_neg h3,if_neg h1];unfold needG wantA;rw[if_neg (by omega),if_neg (by omega),if_neg (by omega),if_neg h12];rfl
def NM (w0 w:World) (g n:Nat) (G:Int→Option Value):Prop:=Below w0.heap.size w0 w∧w0.heap.size≤g∧MapT niV w Tryd.prog 3 g n G
theorem NM.put {w0 w:World} {g n:Nat} {G:Int→Option Value} (h:NM w0 w g n G) (hn:n<100) (y:Int) (hy:0≤y∧y≤100) (v:Value) :
  ∃w',(Instr.mapUpdate 120 (.map (some g)) (.int .i64 y) v).run Tryd.prog w = .ok () w'∧NM w0 w' g (n+1) (fun q=>if q=y then some v else G q):=by
 obtain⟨h1,h2,h3⟩:=h;obtain⟨w',r1,g1,M1⟩:=h3.storeRun intK Tryd.underlying120 W7v (Nat.lt_trans hn (by decide)) y v (niKey y ⟨by omega,by omega⟩);exact⟨w',r1,h1.grown g1 h1.size (fun k e=>by injection e with e;omega),h2,M1⟩
theorem X2p (w:World):Calls Tryd.prog 54 #[] w fun e w'=>∃g,e = .returned (.map (some g))∧w.heap.size≤g∧MapT niV w' Tryd.prog 3 g 9 needG∧Below w.heap.size w w':=by
 obtain⟨B,hB⟩:∃B,w.heap.size=B:=⟨_,rfl⟩;have HB:=bx hB;have Yi:=bx (Bk.newAt w 123 #[.int .i64 7,.int .i64 12] hB);have hb0:=Y9z (Below.refl w.heap.size w) (Z00 _) (.cells #[.int .i64 7,.int .i64 12] 123);have Rk:=bx hb0;have hz0:(w.alloc (.cells #[.int .i64 7,.int .i64 12] 123)).heap.size=B+1:=by rw[←hB];simp
 have hmm:=@run_makeMap Tryd.prog;clear hb0 hB
 go_enter Tryd.func54,Tryd.ntmps54
 go_upto_region 2 with(fail)
 rw[HB.out];generalize w.alloc (.cells #[.int .i64 7,.int .i64 12] 123)=w0 at Yi Rk hz0 ⊢;have K0:NM w0 (w0.alloc (.map #[] 0)) (B+1) 0 (fun _=>none):=⟨Y9z (Below.refl _ _) (Z00 _) _,Z32 hz0,MapT.madeAt w0 _ _ hz0⟩;obtain⟨w1,r1,K1⟩:=K0.put (by decide) 1 (by decide) (.agg #[.int .i64 0,.int .i64 0]);obtain⟨w2,r2,K2⟩:=K1.put (by decide) 3 (by decide) (.agg #[.int .i64 0,.int .i64 0]);obtain⟨w3,r3,K3⟩:=K2.put (by decide) 5 (by decide) (.agg #[.int .i64 0,.int .i64 0]);obtain⟨w4,r4,K4⟩:=K3.put (by decide) 7 (by decide) (.agg #[.int .i64 1,.int .i64 0]);obtain⟨w5,r5,K5⟩:=K4.put (by decide) 8 (by decide) (.agg #[.int .i64 1,.int .i64 0]);obtain⟨w6,r6,K6⟩:=K5.put (by decide) 9 (by decide) (.agg #[.int .i64 7,.int .i64 12]);obtain⟨w7,r7,K7⟩:=K6.put (by decide) 10 (by decide) (.agg #[.int .i64 7,.int .i64 12]);obtain⟨w8,r8,K8⟩:=K7.put (by decide) 11 (by decide) (.agg #[.int .i64 7,.int .i64 12]);obtain⟨w9,r9,K9⟩:=K8.put (by decide) 12 (by decide) (.agg #[.int .i64 1,.int .i64 1]);have Tj:=bx K9;have c50:w5.cell? ⟨B,0,none⟩=some (.int .i64 7):=((Yi.out.below K5.1 (by omega)).cell 0).trans rfl;have c51:w5.cell? ⟨B,1,none⟩=some (.int .i64 12):=((Yi.out.below K5.1 (by omega)).cell 1).trans rfl;have c60:w6.cell? ⟨B,0,none⟩=some (.int .i64 7):=((Yi.out.below K6.1 (by omega)).cell 0).trans rfl;have c61:w6.cell? ⟨B,1,none⟩=some (.int .i64 12):=((Yi.out.below K6.1 (by omega)).cell 1).trans rfl;have c70:w7.cell? ⟨B,0,none⟩=some (.int .i64 7):=((Yi.out.below K7.1 (by omega)).cell 0).trans rfl;have c71:w7.cell? ⟨B,1,none⟩=some (.int .i64 12):=((Yi.out.below K7.1 (by omega)).cell 1).trans rfl;clear K0 K1 K2 K3 K4 K5 K6 K7 K8 K9;go_wp2;go_ret;refine⟨_,rfl,by rw[HB.out];omega,Tj.out.2.2.ext (fun x=>?_),Rk.out.trans (Tj.out.1.mono Rk.out.size)⟩;exact Y1k x
theorem X8y (x:Int):u2P x=true↔0≤x∧x≤65535:=by unfold u2P;simp
theorem Y8z (A:Option Addr) (n c:Nat) (l:List Int) (w:World) (hn:l.length=n) (hb:n≤100) (hr:RL iV w w.heap.size A l) :
  Calls Tryd.prog 32 #[.slice A n c] w fun e w'=>e = .returned (.bool (l.all u2P))∧w=w':=by
 have HL:=bx hn;have HR:=bx hr;obtain⟨R,hR⟩:∃R,l.all u2P=R:=⟨_,rfl⟩;rw[hR];have Zi:=bx hR;have Ms:Bx ((l.take 0).all u2P=true):=bx rfl;clear hn hr hR
 go_enter Tryd.func32,Tryd.ntmps32
 go_wp2
 go_loop [7] (fun i=>∃k:Nat,k≤n∧i = .int .i64 (k:Int)∧Bx ((l.take k).all u2P=true)) (fun i=>n-(intOf i).toNat)
 case atStart=>exact⟨0,by omega,rfl,Ms⟩
 case round=>
  clear Ms;obtain⟨k,hk,rfl,HA⟩:=hrel;by_cases hkn:k<n
  ·have hkI:(k:Int)<(n:Int):=by omega
   obtain⟨ad,x,rfl,_,hx,p0⟩:=RL.num HR.out (k:=k) (by rw[HL.out];exact hkn);have HX:=bx hx.out;clear hx;by_cases hu:u2P x=true
   ·have hx2:=(X8y x).1 hu
    have HN:Bx ((l.take (k+1)).all u2P=true):=bx (by rw[Z40,HX.out,List.all_append,HA.out];simp [hu]);have hd:((x / 65536:Int) != 0)=false:=by rw[show x / 65536=0 by omega];rfl
    have hd2:((x / 2 ^ 16:Int) != 0)=false:=by rw[show (2:Int) ^ 16=65536 from rfl];exact hd
    have hx20:=hx2.1;clear hu hx2;go_wp2
    go_round
    case rel=>exact⟨k+1,by omega,by go_num,HN⟩
    case measure=>simp [intOf];omega
   ·have hx2:¬(0≤x∧x≤65535):=fun h=>hu ((X8y x).2 h)
    have HN:Bx (R=false):=bx (by rw[←Zi.out,List.all_eq_false];exact⟨x,Z16 HX.out,by simpa using hu⟩);have hd:((x / 65536:Int) != 0)=true:=by rw[bne_iff_ne];omega
    have hd2:((x / 2 ^ 16:Int) != 0)=true:=by rw[show (2:Int) ^ 16=65536 from rfl];exact hd
    clear hu hx2;go_wp2;go_ret;exact⟨by rw[HN.out];rfl,rfl⟩
  ·obtain rfl:n=k:=by omega
   have hkI:¬(n:Int)<(n:Int):=by omega
   have HN:Bx (R=true):=bx (by
    have:=HA.out
    rw[Z15 (by rw[HL.out];exact Z00 _)]at this;rw[←Zi.out];exact this)
   go_wp2;go_ret;exact⟨by rw[HN.out];rfl,rfl⟩
theorem Y4c {w:World} {B:Nat} {A:Option Addr} {L:List Cst} (h:RS cstC w B A L) {k:Nat} (hk:k<L.length) :
  ∃ad x,A=some ad∧ad.block<B∧Bx (L[k]? = some x)∧w.cell? (ad.add (k*5))=some (.int .i64 x.tag)∧w.cell? ⟨(ad.add (k*5)).block,(ad.add (k*5)).off+1,none⟩=some (.int .i64 x.a)∧w.cell? ⟨(ad.add (k*5)).block,(ad.add (k*5)).off+2,none⟩=some (.int .i64 x.b) ∧
   w.cell? ⟨(ad.add (k*5)).block,(ad.add (k*5)).off+3,none⟩=some (.int .i64 x.num)∧w.cell? ⟨(ad.add (k*5)).block,(ad.add (k*5)).off+4,none⟩=some (.string ⟨x.text.toArray⟩):=by
 obtain⟨ad,x,hA,hlt,hx,hc,hcs⟩:=h.at_ cstCels hk;exact⟨ad,x,hA,hlt,bx hx.out,hc _ rfl,hcs 0 _ rfl,hcs 1 _ rfl,hcs 2 _ rfl,hcs 3 _ rfl⟩
theorem Y9g (A:Option Addr) (n c:Nat) (L:List Cst) (at_ tg:Int) (w:World) (hn:L.length=n) (_hb:(n:Int)≤9223372036854775807) (ht:tg≠0) (hr:RS cstC w w.heap.size A L) :
  Calls Tryd.prog 34 #[.slice A n c,.int .i64 at_,.int .i64 tg] w fun e w'=>e = .returned (.bool (decide (tagP L at_=tg)))∧w=w':=by
 have HL:=bx hn;have HR:=bx hr;have HT:=bx ht;obtain⟨R,hR⟩:∃R,decide (tagP L at_=tg)=R:=⟨_,rfl⟩;rw[hR];have Zi:=bx hR;clear hn hr ht hR;by_cases h1:at_<1
 ·have d1:decide ((1:Int)≤at_)=false:=by simp;omega
  have HN:Bx (R=false):=bx (by rw[←Zi.out];refine Z48 (fun e=>HT.out ?_);unfold tagP at e;rw[if_pos h1]at e;exact e.symm);clear h1
  go_enter Tryd.func34,Tryd.ntmps34
  go_wp2;go_ret;exact⟨by rw[HN.out];rfl,rfl⟩
 obtain⟨k,rfl⟩:∃k:Nat,at_=(k:Int):=⟨at_.toNat,by omega⟩;have d1:(1:Int)≤(k:Int):=(by omega);by_cases h2:k<n
 ·obtain⟨ad,x,rfl,_,HX,p0,_⟩:=Y4c HR.out (k:=k) (by rw[HL.out];exact h2)
  have h2I:(k:Int)<(n:Int):=(by omega);have h2J:(0:Int)≤(k:Int):=(by omega);have h2K:(k:Int).toNat=k:=(by omega);have S5:Bx (tagP L (k:Int)=x.tag):=bx (by unfold tagP;rw[if_neg h1,Z30,HX.out]);by_cases h3:x.tag=tg
  ·have d3:(x.tag==tg)=true:=by rw[beq_iff_eq];exact h3
   have HN:Bx (R=true):=bx (by rw[←Zi.out];exact Z47 (by rw[S5.out];exact h3));clear h1 h2 h3
   go_enter Tryd.func34,Tryd.ntmps34
   go_wp2;go_ret;exact⟨by rw[HN.out];rfl,rfl⟩
  ·have d3:(x.tag==tg)=false:=by rw[beq_eq_false_iff_ne];exact h3
   have HN:Bx (R=false):=bx (by rw[←Zi.out];exact Z48 (by rw[S5.out];exact h3));clear h1 h2 h3
   go_enter Tryd.func34,Tryd.ntmps34
   go_wp2;go_ret;exact⟨by rw[HN.out];rfl,rfl⟩
 ·have h2I:¬(k:Int)<(n:Int):=by omega
  have HN:Bx (R=false):=bx (by rw[←Zi.out];refine Z48 (fun e=>HT.out ?_);unfold tagP at e;rw[if_neg h1,Z30,List.getElem?_eq_none (by rw[HL.out];omega)]at e;exact e.symm);clear h1 h2
  go_enter Tryd.func34,Tryd.ntmps34
  go_wp2;go_ret;exact⟨by rw[HN.out];rfl,rfl⟩
theorem X7d {s t:ByteArray} (h:s.data.toList=t.data.toList):s=t:=ByteArray.ext (Array.toList_inj.1 h)
theorem X8w (s:ByteArray):s.data.toList.length=s.size:=rfl
theorem tl_ne {s:ByteArray} {l:List UInt8} (h:¬s.data.toList=l):(s.toList==l)=false:=by
 rw[Lib.toList_data];simpa using h
theorem tl_eq {s:ByteArray} {l:List UInt8} (h:s.data.toList=l):(s.toList==l)=true:=by
 rw[Lib.toList_data];simpa using h
theorem X2o {s:ByteArray} (h:¬s.data.toList=[]):s.toList.isEmpty=false:=by
 rw[Lib.toList_data];simpa using h
theorem W8h {s:ByteArray} (h:s.data.toList=[]):s.toList.isEmpty=true:=by
 rw[Lib.toList_data];simpa using h
theorem ret_bool {b b':Bool} (h:b=b'):Ending.returned (.bool b)=Ending.returned (.bool b'):=by rw[h]
theorem byteAt {s:ByteArray} {k:Nat} (h:k<s.size):s.data.toList[k]? = some s[k]:=by
 have:k<s.data.toList.length:=h
 rw[Z33 this];rfl
open Go.RowKit
def uV (x:UInt16):Value := .int .u16 (x.toNat:Int)
theorem X9f (x:UInt16):(uV x).oneCell'=true:=rfl
theorem X5u (s:ByteArray):s.data.toList.drop s.size=[]:=List.drop_eq_nil_of_le (Z00 _)
open Go.RowKit
theorem u16_info:(Tryd.prog.info? 147).map (fun i=>(i.zero,i.size,i.bytes))=some (some (.int .u16 0),1,2):=by kernel_rfl
theorem unitTy:ETy Tryd.prog 125 147 (.int .u16 0) 1 2:=⟨Tryd.underlying125,info_parts u16_info,rfl,by decide⟩
def UnitsPost (l:List UInt8) (w:World) (e:Ending) (w':World):Prop:=
 ∃A n c,e = .returned (.tuple #[.slice A n c,.int .i64 (unitsV l).2])∧(unitsV l).1.length=n∧RL uV w' w'.heap.size A (unitsV l).1∧Below w.heap.size w w'
theorem Y9j {l:List UInt8} {w w':World} (h:unitsB l=none) (hb:Below w.heap.size w w'):UnitsPost l w (.returned (.tuple #[.slice none 0 0,.int .i64 23])) w':=by
 unfold UnitsPost;rw[Y5m h];exact⟨none,0,0,rfl,rfl,RL.nil,hb⟩
theorem Y2z {l:List UInt8} {w w':World} {us:List UInt16} {A:Option Addr} {n c:Nat} (h:unitsB l=some us) (hn:us.length=n) (hr:RL uV w' w'.heap.size A us) (hb:Below w.heap.size w w') :
  UnitsPost l w (.returned (.tuple #[.slice A n c,.int .i64 0])) w':=by
 unfold UnitsPost;rw[Y6c h];exact⟨A,n,c,rfl,hn,hr,hb⟩
theorem byteNone {s:ByteArray} {k:Nat} (h:¬k<s.size):s.data.toList[k]? = none:=List.getElem?_eq_none (by rw[X8w];omega)
theorem X0v {v:Nat} {x:Int} (h:(v:Int)=x) (h1:v<65536):Value.int .u16 x=uV (UInt16.ofNat v):=by unfold uV;rw[uVnat h1,h]
theorem Y7a (s:ByteArray) (w:World) (hs:s.size≤2000000) :
  Calls Tryd.prog 55 #[.string s] w (UnitsPost s.data.toList w):=by
 go_enter Tryd.func55,Tryd.ntmps55
 go_wp2
 go_loopw [4,5] (fun v i wr=>∃(k f:Nat) (us:List UInt16),k≤s.size∧s.size≤f+k∧i = .int .i64 (k:Int)∧us.length≤k∧OwL uV wr w.heap.size 147 v us∧Below w.heap.size w wr∧Hid (unitsB s.data.toList=unitsGo f us (s.data.toList.drop k))) (fun _ i _=>s.size-(intOf i).toNat)
 case atStart=>exact⟨0,s.size,[],by omega,by omega,rfl,by simp,OwL.nil,Below.refl _ _,Lib.hid rfl⟩
 case round=>
  obtain⟨k,f,us,hk,hf,rfl,hus,hown,hbel,hgo⟩:=hrel;have hbz:=hbel.size;by_cases hk0:k<s.size
  ·have hat:=Lib.hid (byteAt hk0)
   have ha:=s[k].toNat_lt;obtain⟨a,haa⟩:∃a,s[k].toNat=a:=⟨_,rfl⟩;have HA:=Lib.hid haa;by_cases c1:0<a∧a<128
   ·obtain⟨c1,c2⟩:=c1
    have h3:=Lib.hid (Y6x (f:=f) (us:=us) (v:=a) (n:=1) hat.out (by omega) (by rw[haa];unfold unit3;rw[if_pos ⟨c1,c2⟩]));have p1:(1:Int)≤(s[k].toNat:Int):=(by omega);have p2:(s[k].toNat:Int)<128:=(by omega);clear haa;go_wp2_with (at_builtin;refine Y9l _ X9f rfl (.tmp 107) (.tmp 109) rfl unitTy (by decide) w.heap.size _ us rfl (hown.alloc _) _ _ 1 1 [UInt16.ofNat a] rfl rfl (RL.freshe _ _ ?c0 _) ?c1 ?c2 ?_)
    case c0=>exact X0v (by rw[HA.out]) (by omega)
    case c1=>first | omega | (simp only[Z11,Z13];omega)
    case c2=>first | omega | (simp;omega)
    intro v2 w2 own2 _ _ hb2;have hb2':=(Y9z hbel (Z00 _) _).trans hb2;go_wp2;go_roundw
    case rel=>exact⟨k+1,f-1,_,by omega,by omega,by go_num,by simp;omega,own2,hb2',Lib.hid (by rw[hgo.out,h3.out])⟩
    case measure=>simp [intOf];omega
   ·by_cases c3:a / 32=6
    ·have e3:((s[k].toNat:Int) / 32==6)=true:=by simp;omega
     have p1:128≤(s[k].toNat:Int):=(by omega);have e9:((s[k].toNat:Int) / 16==14)=false:=by simp;omega
     by_cases hk1:k+1<s.size
     ·have hk1':(k:Int)+1<(s.size:Int):=by omega
      have hbt:=Lib.hid (byteAt hk1);have hb8:=s[k+1].toNat_lt;by_cases c4:s[k+1].toNat / 64=2
      ·have e4:((s[k+1].toNat:Int) / 64==2)=true:=by simp;omega
       have s1:IntKind.i64.wrap ((k:Int)+1)=(k:Int)+1:=IntWalk.i64_in _ (by omega);have s2:(0:Int)≤(k:Int)+1:=(by omega);have s4:((k:Int)+1).toNat=k+1:=(by omega);obtain⟨v,hv⟩:∃v:Int,(two s[k].toNat s[k+1].toNat:Int)=v:=⟨_,rfl⟩;have hbv:=X1k (a:=s[k].toNat) (b:=s[k+1].toNat) ha;rw[hv]at hbv;have Cw:two s[k].toNat s[k+1].toNat<65536:=by have:=W4o s[k].toNat s[k+1].toNat;omega
       have hvv:=Lib.hid hv;have q0:0≤v:=(by omega);have q1:v<65536:=(by omega);have Rj:=Lib.hid (show s[k].toNat / 32=6 by omega);have Yg:=Lib.hid c4;by_cases c7:0<v∧v<128
       ·have hno:=Lib.hid (show unitsB s.data.toList=none by
         rw[hgo.out];refine Y8p hat.out (Y7f Rj.out ?_);intro x hx;rw[hbt.out]at hx;injection hx with hx;subst hx
         rintro⟨_,h⟩;exact h (by omega))
        obtain⟨c7,c8⟩:=c7;clear haa hv c1;go_wp2;go_quiet (fail)
        go_wp2;go_ret2;exact Y9j hno.out (below_drewN hbel _)
       ·have h3:=Lib.hid (Y6x (f:=f) (us:=us) hat.out (by omega) (X4e Rj.out hbt.out c4 (by omega)))
        have c8:v≤0∨128≤v:=(by omega);clear haa hv c1 c7;rcases c8 with c8 | c8
        ·have c9:v<128:=by omega
         go_wp2;go_quiet (fail)
         have hq:=Lib.hid (X0v hvv.out Cw);go_wp2_with (at_builtin;refine Y9l _ X9f rfl (.tmp 107) (.tmp 109) rfl unitTy (by decide) w.heap.size _ us rfl ((hown.drewN _).alloc _) _ _ 1 1 [UInt16.ofNat (two s[k].toNat s[k+1].toNat)] rfl rfl (RL.freshe _ _ ?c0 _) ?c1 ?c2 ?_)
         case c0=>exact hq.out
         case c1=>first | omega | (simp only[Z11,Z13];omega)
         case c2=>first | omega | (simp;omega)
         intro v2 w2 own2 _ _ hb2;have hb2':=(Y9z (below_drewN hbel _) (Z00 _) _).trans hb2;go_wp2;go_roundw
         case rel=>exact⟨k+2,f-1,_,by omega,by omega,by go_num,by simp;omega,own2,hb2',Lib.hid (by rw[hgo.out,h3.out])⟩
         case measure=>simp [intOf];omega
        ·have c9:0<v:=by omega
         go_wp2;go_quiet (fail)
         have hq:=Lib.hid (X0v hvv.out Cw);go_wp2_with (at_builtin;refine Y9l _ X9f rfl (.tmp 107) (.tmp 109) rfl unitTy (by decide) w.heap.size _ us rfl ((hown.drewN _).alloc _) _ _ 1 1 [UInt16.ofNat (two s[k].toNat s[k+1].toNat)] rfl rfl (RL.freshe _ _ ?c0 _) ?c1 ?c2 ?_)
         case c0=>exact hq.out
         case c1=>first | omega | (simp only[Z11,Z13];omega)
         case c2=>first | omega | (simp;omega)
         intro v2 w2 own2 _ _ hb2;have hb2':=(Y9z (below_drewN hbel _) (Z00 _) _).trans hb2;go_wp2;go_roundw
         case rel=>exact⟨k+2,f-1,_,by omega,by omega,by go_num,by simp;omega,own2,hb2',Lib.hid (by rw[hgo.out,h3.out])⟩
         case measure=>simp [intOf];omega
      ·have hno:=Lib.hid (show unitsB s.data.toList=none by
        rw[hgo.out];refine Y8p hat.out (Y7f (by omega) ?_);intro x hx;rw[hbt.out]at hx;injection hx with hx;subst hx
        rintro⟨h,_⟩;exact c4 h)
       have e4:((s[k+1].toNat:Int) / 64==2)=false:=by simp;omega
       clear haa c1 c4;go_wp2;go_ret2;exact Y9j hno.out hbel
     ·have hno:=Lib.hid (show unitsB s.data.toList=none by
       rw[hgo.out];refine Y8p hat.out (Y7f (by omega) ?_);intro x hx;rw[byteNone hk1]at hx;cases hx)
      have hk1':(s.size:Int)≤(k:Int)+1:=(by omega);clear haa c1;go_wp2;go_ret2;exact Y9j hno.out hbel
    ·have e3:((s[k].toNat:Int) / 32==6)=false:=by simp;omega
     by_cases c4:a / 16=14
     ·have e4:((s[k].toNat:Int) / 16==14)=true:=by simp;omega
      have p1:128≤(s[k].toNat:Int):=(by omega);by_cases hk2:k+2<s.size
      ·have hk2':(k:Int)+2<(s.size:Int):=by omega
       have hk1':(k:Int)+1<(s.size:Int):=(by omega);have hk1:k+1<s.size:=(by omega);have hbt:=Lib.hid (byteAt hk1);have hb8:=s[k+1].toNat_lt;have hct:=Lib.hid (byteAt hk2);have hc8:=s[k+2].toNat_lt;by_cases c5:s[k+1].toNat / 64=2
       ·have e5:((s[k+1].toNat:Int) / 64==2)=true:=by simp;omega
        by_cases c6:s[k+2].toNat / 64=2
        ·have e6:((s[k+2].toNat:Int) / 64==2)=true:=by simp;omega
         have s1:IntKind.i64.wrap ((k:Int)+1)=(k:Int)+1:=IntWalk.i64_in _ (by omega);have s2:(0:Int)≤(k:Int)+1:=(by omega);have s4:((k:Int)+1).toNat=k+1:=(by omega);have s5:IntKind.i64.wrap ((k:Int)+2)=(k:Int)+2:=IntWalk.i64_in _ (by omega);have s6:(0:Int)≤(k:Int)+2:=(by omega);have s7:((k:Int)+2).toNat=k+2:=(by omega);obtain⟨v,hv⟩:∃v:Int,(three s[k].toNat s[k+1].toNat s[k+2].toNat:Int)=v:=⟨_,rfl⟩;have hbv:=X8j (a:=s[k].toNat) (b:=s[k+1].toNat) (c:=s[k+2].toNat) ha;rw[hv]at hbv;have Cw:three s[k].toNat s[k+1].toNat s[k+2].toNat<65536:=X1q _ _ _;have hvv:=Lib.hid hv;have q0:0≤v:=(by omega);have q1:v<65536:=(by omega);have Rj:=Lib.hid (show s[k].toNat / 16=14 by omega);by_cases c7:v<2048
         ·have hno:=Lib.hid (show unitsB s.data.toList=none by
           rw[hgo.out];refine Y8p hat.out (Y8h Rj.out ?_);intro x y hx hy;rw[hbt.out]at hx;injection hx with hx;subst hx
           rw[hct.out]at hy;injection hy with hy;subst hy
           rintro⟨_,_,h⟩;omega)
          clear haa hv c1;go_wp2;go_quiet (fail)
          go_wp2;go_ret2;exact Y9j hno.out (below_drewN hbel _)
         ·have h3:=Lib.hid (Y6x (f:=f) (us:=us) hat.out (by omega) (Y0i Rj.out hbt.out hct.out c5 c6 (by omega)))
          have c8:2048≤v:=(by omega);clear haa hv c1 c7;go_wp2;go_quiet (fail)
          have hq:=Lib.hid (X0v hvv.out Cw);go_wp2_with (at_builtin;refine Y9l _ X9f rfl (.tmp 107) (.tmp 109) rfl unitTy (by decide) w.heap.size _ us rfl ((hown.drewN _).alloc _) _ _ 1 1 [UInt16.ofNat (three s[k].toNat s[k+1].toNat s[k+2].toNat)] rfl rfl (RL.freshe _ _ ?c0 _) ?c1 ?c2 ?_)
          case c0=>exact hq.out
          case c1=>first | omega | (simp only[Z11,Z13];omega)
          case c2=>first | omega | (simp;omega)
          intro v2 w2 own2 _ _ hb2;have hb2':=(Y9z (below_drewN hbel _) (Z00 _) _).trans hb2;go_wp2;go_roundw
          case rel=>exact⟨k+3,f-1,_,by omega,by omega,by go_num,by simp;omega,own2,hb2',Lib.hid (by rw[hgo.out,h3.out])⟩
          case measure=>simp [intOf];omega
        ·have hno:=Lib.hid (show unitsB s.data.toList=none by
          rw[hgo.out];refine Y8p hat.out (Y8h (by omega) ?_);intro x y hx hy;rw[hct.out]at hy;injection hy with hy;subst hy
          rintro⟨_,h,_⟩;exact c6 h)
         have e6:((s[k+2].toNat:Int) / 64==2)=false:=by simp;omega
         clear haa c1 c5 c6;go_wp2;go_ret2;exact Y9j hno.out hbel
       ·have hno:=Lib.hid (show unitsB s.data.toList=none by
         rw[hgo.out];refine Y8p hat.out (Y8h (by omega) ?_);intro x y hx hy;rw[hbt.out]at hx;injection hx with hx;subst hx
         rintro⟨h,_,_⟩;exact c5 h)
        have e5:((s[k+1].toNat:Int) / 64==2)=false:=by simp;omega
        clear haa c1 c5;go_wp2;go_ret2;exact Y9j hno.out hbel
      ·have hno:=Lib.hid (show unitsB s.data.toList=none by
        rw[hgo.out];refine Y8p hat.out (Y8h (by omega) ?_);intro x y hx hy;rw[byteNone hk2]at hy;cases hy)
       have hk2':(s.size:Int)≤(k:Int)+2:=(by omega);clear haa c1;go_wp2;go_ret2;exact Y9j hno.out hbel
     ·have e4:((s[k].toNat:Int) / 16==14)=false:=by simp;omega
      have hno:=Lib.hid (show unitsB s.data.toList=none by rw[hgo.out];exact Y8p hat.out (Y1i (by omega) (by omega) (by omega)));rcases(show (s[k].toNat:Int)<1∨128≤(s[k].toNat:Int) by omega) with p1 | p1
      ·clear haa c1
       go_wp2;go_ret2;exact Y9j hno.out hbel
      ·clear haa c1
       go_wp2;go_ret2;exact Y9j hno.out hbel
  ·obtain rfl:k=s.size:=by omega
   obtain⟨A,c,rfl,hr,hc1,hc2⟩:=hown.rd;have hfin:=Lib.hid (show unitsB s.data.toList=some us by rw[hgo.out,X5u];exact Y0z _ _);go_wp2;go_ret2;exact Y2z hfin.out rfl hr hbel
open Go.RowKit
theorem RA.at_ {w:World} {B:Nat} {A:Option Addr} {L:List AtE} (h:RA w B A L) {k:Nat} (hk:k<L.length) :
  ∃ad x,A=some ad∧ad.block<B∧Bx (L[k]? = some x)∧w.cell? (ad.add (k*2))=some (.int .i64 x.name)∧w.cell? ⟨(ad.add (k*2)).block,(ad.add (k*2)).off+1,none⟩=some (.slice x.s.A x.s.n x.s.c)∧Bx (SlB w B x.s):=by
 obtain⟨ad,x,hA,hlt,hx,hc,hcs⟩:=h.1.at_ attCels hk;exact⟨ad,x,hA,hlt,bx hx.out,hc _ rfl,hcs 0 _ rfl,bx (h.2 x (Z16 hx.out))⟩
open Go.RowKit
theorem Bk.setRow {w:World} {g:Nat} {t:TypeId} {old:Array Value} (h:Bk w g t old) (cs:Array Value):Bk (w.setRow g cs) g t cs:=by
 unfold Bk at h ⊢;simp [World.setRow,Array.getElem?_modify,h]
theorem heap_setRow (w:World) (g:Nat) (cs:Array Value) (k:Nat) (h:k≠g):(w.setRow g cs).heap[k]? = w.heap[k]? := by
 have h':¬g=k:=fun e=>h e.symm;simp [World.setRow,Array.getElem?_modify,h']
theorem bl_setRow {B:Nat} {a w:World} (h:Below B a w) {g:Nat} (hg:B≤g) (cs:Array Value):Below B a (w.setRow g cs):=
 ⟨h.os,h.tape,h.output,by simpa using h.size,fun k hk=>(heap_setRow w g cs k (by omega)).trans (h.block k hk)⟩
def setF (W:World) (g:Nat) (cs:Array Value):Nat→World
 | 0=>W
 | _=>W.setRow g cs
open Go.RowKit
theorem X4w (c:UInt8):okc c=true↔32<(c.toNat:Int)∧¬(c.toNat:Int)=127∧Lib.indexByte [46,59,91,92,40,41,60,62] c<0:=by
 unfold okc;have h:=Y7l badL c;have h2:(Lib.indexByte badL c<0)↔¬c∈badL:=by rw[←h];omega
 rw[show ([46,59,91,92,40,41,60,62]:List UInt8)=badL from rfl,h2];simp only[Z20,decide_eq_true_eq,bne_iff_ne,ne_eq,Bool.not_eq_true',List.contains_eq_mem,decide_eq_false_iff_not]
 constructor
 ·rintro⟨⟨a,b⟩,c⟩;exact⟨by omega,by omega,c⟩
 ·rintro⟨a,b,c⟩;exact⟨⟨by omega,by omega⟩,c⟩
theorem Y5b {s:ByteArray} {k:Nat} (h:k<s.size) (hb:¬(32<(s[k].toNat:Int)∧¬(s[k].toNat:Int)=127∧Lib.indexByte [46,59,91,92,40,41,60,62] s[k]<0)):cleanB s.data.toList=false:=by
 rw[←X4w]at hb;unfold cleanB;have hm:s[k]∈s.data.toList:=Z16 (byteAt h)
 have:s.data.toList.all okc=false:=by rw[List.all_eq_false];exact⟨_,hm,hb⟩
 rw[this];rfl
theorem X1i {s:ByteArray} {k:Nat} (h:k<s.size) {p:UInt8→Bool} (ha:(s.data.toList.take k).all p=true) (hb:p s[k]=true):(s.data.toList.take (k+1)).all p=true:=by
 rw[Z40,byteAt h];simp [hb]at ha ⊢;exact ha
theorem Y5l (s:ByteArray) (w:World) (hs:s.size≤140737488355328) :
  Calls Tryd.prog 73 #[.string s] w fun e w'=>e = .returned (.bool (cleanB s.data.toList))∧w=w':=by
 go_enter Tryd.func73,Tryd.ntmps73
 go_wp2
 go_loop [7] (fun i=>∃k:Nat,k≤s.size∧i = .int .i64 (k:Int)∧Hid (((s.data.toList).take k).all okc=true)) (fun i=>s.size-(intOf i).toNat)
 case atStart=>exact⟨0,by omega,rfl,Lib.hid (by simp)⟩
 case round=>
  obtain⟨k,hk,rfl,hall⟩:=hrel;by_cases hk0:k<s.size
  ·go_wp2_with (go_at_call 75;refine(Tryd.strings_IndexByte _ _ _).mono ?_;rintro e w' ⟨rfl,rfl⟩)
   ·go_ret
    exact⟨ret_bool (Y5b hk0 (by omega)).symm,rfl⟩
   ·rename_i h4
    go_ret;exact⟨ret_bool (Y5b hk0 (by rintro⟨a1,a2,a3⟩;simp only[beq_iff_eq]at h4;omega)).symm,rfl⟩
   ·rename_i h4
    go_round
    case rel=>exact⟨k+1,by omega,by go_num,Lib.hid (X1i hk0 hall.out ((X4w _).2 (by simp at h4;omega)))⟩
    case measure=>simp [intOf];omega
   ·go_ret
    exact⟨ret_bool (Y5b hk0 (by omega)).symm,rfl⟩
  ·obtain rfl:k=s.size:=by omega
   go_wp2;go_ret;exact⟨ret_bool (by rw[Lib.toList_data];have h:=hall.out;rw[show s.data.toList.take s.size=s.data.toList from List.take_length]at h;unfold cleanB;rw[h,Z25]),rfl⟩
open Go.RowKit
abbrev sV:ByteArray→Value:=Value.string
theorem X0m (s:ByteArray):∃ps:List ByteArray,ps=Lib.splitB ⟨#[47]⟩ 0 (Lib.countB s ⟨#[47]⟩) s∧ps.length=Lib.countB s ⟨#[47]⟩+1∧(ps.all fun p=>cleanB p.data.toList)=classGo s.data.toList 0∧∀p∈ps,p.size≤s.size:=by
 refine⟨_,rfl,Lib.splitB_all _ (by decide) 0 _ s rfl,?_,?_⟩
 ·rw[←X4v]
  have h:=Lib.splitB_data ⟨#[47]⟩ 0 (Lib.countB s ⟨#[47]⟩) s;show _=(Lib.splitK [47] 0 (Lib.countB s ⟨#[47]⟩) s.data.toList).all cleanB;rw[show ([47]:List UInt8)=(⟨#[47]⟩:ByteArray).data.toList from rfl,←h,List.all_map]
  rfl
 ·generalize Lib.countB s ⟨#[47]⟩=k
  induction k generalizing s with
  | zero=>intro p hp;simp [Lib.splitB]at hp;subst hp;exact Z00 _
  | succ k ih=>
   intro p hp;unfold Lib.splitB at hp
   split at hp
   ·simp at hp;subst hp;exact Z00 _
   ·rcases Z23.1 hp with e | e
    ·subst e;rw[ByteArray.size_extract];omega
    ·have:=ih _ p e;rw[ByteArray.size_extract]at this;omega
theorem X6m (s:ByteArray) (m:Int) (w:World) (hs:s.size<4294967281) (hm:w.cell? ⟨0,0,none⟩=some (.int .i64 m)) :
  Calls Tryd.prog 72 #[.string s,.string ⟨#[47]⟩] w fun e w'=>∃(ps:List ByteArray) (A:Option Addr) (n:Nat),e = .returned (.slice A n n)∧ps.length=n∧n≤s.size+1∧RL sV w' w'.heap.size A ps∧Below w.heap.size w w' ∧
   (ps.all fun p=>cleanB p.data.toList)=classGo s.data.toList 0∧∀p∈ps,p.size≤s.size:=by
 refine(Tryd.strings_Split _ _ m _ hs hm (by decide)).mono ?_
 rintro e w' ⟨rfl,rfl⟩;obtain⟨ps,hps,hlen,hall,hsz⟩:=X0m s;rw[←hps];refine⟨ps,_,_,rfl,hlen,?_,?_,Y9z (Below.refl _ _) (Z00 _) _,hall,hsz⟩
 ·have:=Lib.countB_le ⟨#[47]⟩ (by decide) _ s (Z00 _);omega
 ·intro hne
  refine⟨_,rfl,by simp,fun i u hu=>?_⟩;have e:(⟨w.heap.size,0,none⟩:Addr).add i=⟨w.heap.size,i,none⟩:=by unfold Addr.add;split <;> simp_all
  rw[e,(Bk.new w _ _).cell]
  simpa using hu
theorem Y6k (s:ByteArray) (m:Int) (w:World) (hs:s.size≤140737488355328) (hm:w.cell? ⟨0,0,none⟩=some (.int .i64 m)) :
  Calls Tryd.prog 57 #[.string s] w fun e w'=>e = .returned (.bool (decide (s.size≤58)&&classGo s.data.toList 0))∧Below w.heap.size w w':=by
 by_cases h58:s.size≤58
 ·go_enter Tryd.func57,Tryd.ntmps57
  go_wp2_with (go_at_call 72;refine(X6m _ m _ (by omega) hm).mono ?_;rintro e w1 ⟨ps,A,n,rfl,hn,hle,hr,hb,hall,hsz⟩;have HN:=Lib.hid hn;have HA:=Lib.hid hall;clear hn hall)
  go_loop [11] (fun i=>∃k:Nat,k≤n∧i = .int .i64 (k:Int)∧Hid (((ps.take k).all fun p=>cleanB p.data.toList)=true)) (fun i=>n-(intOf i).toNat)
  case atStart=>exact⟨0,by omega,rfl,Lib.hid (by simp)⟩
  case round=>
   obtain⟨k,hk,rfl,hgo⟩:=hrel;by_cases hk0:k<n
   ·obtain⟨ad,p,rfl,hlt,hp,hc⟩:=RL.atl hr (k:=k) (by rw[HN.out];exact hk0)
    have hpz:=hsz p (Z16 hp.out);cases hcl:cleanB p.data.toList
    ·go_wp2_with (go_at_call 73;refine(Y5l _ _ (by omega)).mono ?_;rintro e w' ⟨rfl,rfl⟩;rw[hcl])
     go_ret;refine⟨ret_bool ?_,hb⟩
     symm
     rw[←HA.out,Bool.and_eq_false_iff];exact Or.inr (List.all_eq_false.2 ⟨p,Z16 hp.out,by rw[hcl];decide⟩)
    ·go_wp2_with (go_at_call 73;refine(Y5l _ _ (by omega)).mono ?_;rintro e w' ⟨rfl,rfl⟩;rw[hcl])
     go_round
     case rel=>exact⟨k+1,by omega,by go_num,Lib.hid (by rw[Z40,hp.out];have h:=hgo.out;simp [hcl]at h ⊢;exact h)⟩
     case measure=>simp [intOf];omega
   ·obtain rfl:k=n:=by omega
    go_wp2;go_ret;refine⟨ret_bool ?_,hb⟩;have h:=hgo.out;rw[show ps.take k=ps by rw[←HN.out];exact List.take_length,HA.out]at h;rw[h]
 ·go_enter Tryd.func57,Tryd.ntmps57
  go_wp2;go_ret;exact⟨ret_bool (by simp [h58]),Below.refl _ _⟩
open Go.RowKit
theorem X0n (A:Option Addr) (len cap:Nat) (at_ n:Int) (w:World) (h:n<1∨8<n∨at_<0) :
    Calls Tryd.prog 78 #[.slice A len cap,.int .i64 at_,.int .i64 n] w fun e w'=>e = .returned (.int .i64 1)∧w=w':=by
  rcases h with h | h | h
  all_goals
    go_enter Tryd.func78,Tryd.ntmps78
    go_wp2
    all_goals
      go_ret;exact⟨rfl,rfl⟩
theorem X8p (A:Option Addr) (len cap:Nat) (at_ n:Int) (w:World) (hl:(len:Int)≤140737488355328) (h1:1≤n) (h2:n≤8) (h3:0≤at_) (h:len-n<at_) :
    Calls Tryd.prog 78 #[.slice A len cap,.int .i64 at_,.int .i64 n] w fun e w'=>e = .returned (.int .i64 2)∧w=w':=by
  go_enter Tryd.func78,Tryd.ntmps78
  go_wp2;go_ret;exact⟨rfl,rfl⟩
theorem W7h (A:Option Addr) (len cap:Nat) (at_ n:Int) (w:World) (hl:(len:Int)≤140737488355328) (h1:1≤n) (h2:n≤8) (h3:0≤at_) (h:at_≤len-n) :
    Calls Tryd.prog 78 #[.slice A len cap,.int .i64 at_,.int .i64 n] w fun e w'=>e = .returned (.int .i64 0)∧w=w':=by
  go_enter Tryd.func78,Tryd.ntmps78
  go_wp2;go_ret;exact⟨rfl,rfl⟩
theorem X0z {s:List UInt8} {k n:Nat} {x:UInt8} (hs:s.length=n) (hn:n≤8) (hk:k<n) (hx:s[k]? = some x) :
    beN (s.take k)<72057594037927936∧bits .or .u64 ((beN (s.take k):Int)*256) (x.toNat:Int)=(beN (s.take (k+1)):Int):=by
  have h7:beN (s.take k)<256 ^ 7:=Y5o _ (by simp;omega);rw[pow7]at h7;refine⟨h7,?_⟩;rw[W6h _ _ (u8lt x) h7,Y6g hx,X0q]
theorem X3c (A:Option Addr) (cap:Nat) (at_ n:Nat) (w:World) (l:List UInt8) (len:Nat) (hlen:l.length=len) (hl:(l.length:Int)≤140737488355328) (hcap:l.length≤cap) (hcap2:(cap:Int)≤9223372036854775807) (h1:1≤n) (h2:n≤8) (h:at_+n≤l.length)
   (hr:RB w w.heap.size A l) :
    Calls Tryd.prog 64 #[.slice A len cap,.int .i64 at_,.int .i64 n] w fun e w'=>e = .returned (.tuple #[.int .i64 (wrap64 (beN ((l.drop at_).take n))),.int .i64 0])∧w=w':=by
  subst hlen;obtain⟨s,hs⟩:∃s,s=(l.drop at_).take n:=⟨_,rfl⟩;have hsl:s.length=n:=by rw[hs];simp;omega
  rw[←hs];have hrs:RB w w.heap.size (A.map (·.add at_)) s:=by rw[hs];exact(hr.drop at_).take n
  have HL:=Lib.hid hsl;obtain⟨ad,x0,rfl,_,_,_⟩:=hr.byte (k:=at_) (by omega);clear hsl hs;have hne:¬cap=at_:=by omega
  go_enter Tryd.func64,Tryd.ntmps64
  go_wp2_with (go_at_call 78;refine(W7h _ _ _ _ _ _ hl (by omega) (by omega) (by omega) (by omega)).mono ?_;rintro e w' ⟨rfl,rfl⟩)
  go_loop [9,26] (fun v i=>∃k:Nat,k≤n∧i = .int .i64 (k:Int)∧v = .int .u64 (beN (s.take k):Int)) (fun _ i=>n-(intOf i).toNat)
  case atStart=>exact⟨0,by omega,rfl,rfl⟩
  case round=>
    obtain⟨k,hk,rfl,rfl⟩:=hrel;by_cases hk0:k<n
    · obtain⟨ad',x,hA,hb,hx,hc⟩:=hrs.byte (k:=k) (by rw[HL.out];omega)
      simp only[Option.map_some,Option.some.injEq]at hA;subst hA;obtain⟨hlt,hst⟩:=X0z HL.out h2 hk0 hx.out;have Zs:=Lib.hid hst;have hx8:=u8lt x;clear hst;go_wp2
      go_round
      case rel=>exact⟨k+1,by omega,by go_num,by rw[Zs.out]⟩
      case measure=>simp [intOf];omega
    · obtain rfl:k=n:=by omega
      have hlt:beN s<256 ^ 8:=Y5o _ (by rw[HL.out];exact h2);rw[pow8]at hlt;have e2:s.take k=s:=Z15 (by rw[HL.out];omega);rw[e2];clear e2;go_wp2;go_ret2;exact⟨rfl,rfl⟩
theorem Y3e (A:Option Addr) (len cap:Nat) (at_ n:Int) (w:World) (h:n<1∨8<n∨at_<0) :
    Calls Tryd.prog 64 #[.slice A len cap,.int .i64 at_,.int .i64 n] w fun e w'=>e = .returned (.tuple #[.int .i64 0,.int .i64 1])∧w=w':=by
  go_enter Tryd.func64,Tryd.ntmps64
  go_wp2_with (go_at_call 78;refine(X0n _ _ _ _ _ _ h).mono ?_;rintro e w' ⟨rfl,rfl⟩)
  go_ret2;exact⟨rfl,rfl⟩
theorem Y1n (A:Option Addr) (len cap:Nat) (at_ n:Int) (w:World) (hl:(len:Int)≤140737488355328) (h1:1≤n) (h2:n≤8) (h3:0≤at_) (h:len-n<at_) :
    Calls Tryd.prog 64 #[.slice A len cap,.int .i64 at_,.int .i64 n] w fun e w'=>e = .returned (.tuple #[.int .i64 0,.int .i64 2])∧w=w':=by
  go_enter Tryd.func64,Tryd.ntmps64
  go_wp2_with (go_at_call 78;refine(X8p _ _ _ _ _ _ hl h1 h2 h3 h).mono ?_;rintro e w' ⟨rfl,rfl⟩)
  go_ret2;exact⟨rfl,rfl⟩
open Go.RowKit
def Rdr (w:World) (g:Nat) (l:List UInt8) (at_:Nat) (bad:Bool):Prop:=
  ∃A c,Bk w g 143 #[.slice A l.length c,.int .i64 at_,.bool bad]∧RB w g A l∧l.length≤c∧(c:Int)≤9223372036854775807∧(l.length:Int)≤140737488355328∧at_≤l.length
theorem Rdr.below {w w':World} {g:Nat} {l:List UInt8} {at_:Nat} {bad:Bool} (h:Rdr w g l at_ bad) (hb:Below w.heap.size w w'):Rdr w' g l at_ bad:=by
  obtain⟨A,c,h1,h2,r⟩:=h;exact⟨A,c,h1.below hb h1.lt,h2.below hb (Z12 h1.lt),r⟩
theorem X6p (A:Option Addr) (n c:Nat) (w:World) (l:List UInt8) (hn:l.length=n) (hl:(n:Int)≤140737488355328) (hr:RB w w.heap.size A l) :
    Calls Tryd.prog 45 #[.slice A n c] w fun e w'=>∃g,e = .returned (.pointer (some ⟨g,0,none⟩))∧w.heap.size≤g∧Rdr w' g l 0 false∧Below w.heap.size w w'∧∀w'':World,(∀k,w.heap.size≤k→k<w'.heap.size→w''.heap[k]? = w'.heap[k]?)→Rdr w'' g l 0 false:=by
  subst hn
  go_enter Tryd.func45,Tryd.ntmps45
  go_wp2_with (at_builtin;go_loud (refine Y9l _ Y5i rfl _ _ rfl byteTy (by decide) w.heap.size _ [] rfl ?c0 w.heap.size _ l.length _ l rfl rfl ?c1 ?c2 ?c3 ?_))
  case c0=>exact OwL.lit0 w (Z00 _)
  case c1=>exact hr.alloc (Z00 _) _
  case c2=>simp;omega
  case c3=>simp
  intro v1 w1 hown _ _ hb1;have hb2:=((Below.refl w.heap.size w).alloc (Z00 _) _).trans hb1;have HO:=Lib.hid hown;obtain⟨A1,c1,rfl,hr1,hc1⟩:=hown.rd;clear hb1;go_wp2;go_ret;have HA:∀w'':World,(∀k,w.heap.size≤k→k<(w1.alloc (.cells #[.slice A1 l.length c1,.int .i64 0,.bool false] 143)).heap.size→w''.heap[k]? = (w1.alloc (.cells #[.slice A1 l.length c1,.int .i64 0,.bool false] 143)).heap[k]?)→Rdr w'' w1.heap.size l 0 false:=by intro w'' ha;have hB:Bk w'' w1.heap.size 143 #[.slice A1 l.length c1,.int .i64 0,.bool false]:=(ha _ hb2.size (by simp)).trans (Bk.new _ _ _);have ho:OwB w'' w.heap.size 5 (.slice A1 l.length c1) l:=OwL.agree (OwL.alloc HO.out _) fun k h1 h2=>ha k h1 h2;have hrr:=ho.rl;refine⟨A1,c1,hB,?_,hc1.1,hc1.2,hl,by omega⟩;exact RL.low HO.out.rl hrr
  exact⟨_,rfl,hb2.size,⟨A1,c1,Bk.new _ _ _,hr1.alloc (Z00 _) _,hc1.1,hc1.2,hl,by omega⟩,hb2.alloc hb2.size _,HA⟩
theorem W6k (A:Option Addr) (n c:Nat) (w:World) (l:List UInt8) (hn:l.length=n) (hl:(n:Int)≤140737488355328) (hr:RB w w.heap.size A l) :
    Calls Tryd.prog 45 #[.slice A n c] w fun e w'=>∃g,e = .returned (.pointer (some ⟨g,0,none⟩))∧w.heap.size≤g∧Rdr w' g l 0 false∧Below w.heap.size w w':=
  (X6p A n c w l hn hl hr).mono fun _ _ ⟨g,he,hg,hr,hb,_⟩=>⟨g,he,hg,hr,hb⟩
def okN (l:List UInt8) (at_:Nat) (bad:Bool) (n:Int):Bool := !bad&&decide (1≤n)&&decide (n≤8)&&decide ((at_:Int)+n≤l.length)
def numV (l:List UInt8) (at_:Nat) (bad:Bool) (n:Int):Int:=if okN l at_ bad n then wrap64 (beN ((l.drop at_).take n.toNat)) else 0
def numAt (l:List UInt8) (at_:Nat) (bad:Bool) (n:Int):Nat:=if okN l at_ bad n then at_+n.toNat else at_
def NumPost (w:World) (g:Nat) (l:List UInt8) (at_:Nat) (bad:Bool) (n:Int) (e:Ending) (w':World):Prop:=
  e = .returned (.int .i64 (numV l at_ bad n))∧Rdr w' g l (numAt l at_ bad n) (!okN l at_ bad n)∧w.grownBy w' (some g)
theorem W4y (g:Nat) (l:List UInt8) (at_ n:Nat) (w:World) (h:Rdr w g l at_ false) (h1:1≤n) (h2:n≤8) (h3:at_+n≤l.length) :
    Calls Tryd.prog 68 #[.pointer (some ⟨g,0,none⟩),.int .i64 n] w (NumPost w g l at_ false n):=by
  obtain⟨A,c,hB,hr,hc,hc2,hl,hat⟩:=h;have hk:okN l at_ false (n:Int)=true:=by simp [okN];omega
  unfold NumPost numV numAt;rw[hk,if_pos rfl,if_pos rfl,Z30];have c0:=hB.cell 0;have c1:=hB.cell 1;have c2:=hB.cell 2;simp only[Z19,List.getElem?_cons_zero,Z21]at c0 c1 c2;have f1:=hB.frz 1;have hglt:=hB.lt;clear hk
  go_enter Tryd.func68,Tryd.ntmps68
  go_wp2_with fail
  go_quiet ((go_at_call 64;exact Y5u (X3c _ _ _ _ _ l _ rfl hl hc hc2 h1 h2 h3 ((hr.more (Z12 hglt)).drewN _))))
  go_wp2;go_ret;refine⟨rfl,⟨A,c,?_,?_,hc,hc2,hl,h3⟩,?_⟩
  · have:=(hB.drewN nq).set 1 (.int .i64 ((at_:Int)+n))
    simpa using this
  · exact(hr.drewN nq).setCell (Z00 _) _
  · exact Y6y (Y8i (World.grownBy.refl _ _) _) _ _
theorem W6v (g:Nat) (l:List UInt8) (at_:Nat) (n:Int) (w:World) (h:Rdr w g l at_ true) :
    Calls Tryd.prog 68 #[.pointer (some ⟨g,0,none⟩),.int .i64 n] w (NumPost w g l at_ true n):=by
  have h':=h;obtain⟨A,c,hB,hr,hc,hc2,hl,hat⟩:=h;have hk:okN l at_ true (n:Int)=false:=(by simp [okN]);unfold NumPost numV numAt;rw[hk];have H:=Lib.hid h';have c2:=hB.cell 2;simp only[Z19,List.getElem?_cons_zero,Z21]at c2;clear hk h'
  go_enter Tryd.func68,Tryd.ntmps68
  go_wp2;go_ret;exact⟨rfl,H.out,World.grownBy.refl _ _⟩
theorem W7z (g:Nat) (l:List UInt8) (at_:Nat) (n:Int) (w:World) (h:Rdr w g l at_ false) (h1:n<1∨8<n∨(1≤n∧n≤8∧(l.length:Int)<at_+n)) :
    Calls Tryd.prog 68 #[.pointer (some ⟨g,0,none⟩),.int .i64 n] w (NumPost w g l at_ false n):=by
  obtain⟨A,c,hB,hr,hc,hc2,hl,hat⟩:=h;have hk:okN l at_ false (n:Int)=false:=by simp only[okN,Bool.not_false,Z25];rcases h1 with h1 | h1 | h1 <;> simp <;> omega
  unfold NumPost numV numAt;rw[hk];have c0:=hB.cell 0;have c1:=hB.cell 1;have c2:=hB.cell 2;simp only[Z19,List.getElem?_cons_zero,Z21]at c0 c1 c2;have f2:=hB.frz 2;have hglt:=hB.lt;clear hk
  obtain⟨x,hx,hcall⟩:∃x:Int,(x=1∨x=2)∧∀W:World,Calls Tryd.prog 64 #[.slice A l.length c,.int .i64 at_,.int .i64 n] W fun e w'=>e = .returned (.tuple #[.int .i64 0,.int .i64 x])∧W=w':=by
    rcases h1 with h1 | h1 | h1
    · exact⟨1,.inl rfl,fun W=>Y3e _ _ _ _ _ W (.inl h1)⟩
    · exact⟨1,.inl rfl,fun W=>Y3e _ _ _ _ _ W (.inr (.inl h1))⟩
    · exact⟨2,.inr rfl,fun W=>Y1n _ _ _ _ _ W hl h1.1 h1.2.1 (by omega) (by omega)⟩
  have HC:=Lib.hid hcall;have hx0:((x:Int) != 0)=true:=by rcases hx with rfl | rfl <;> rfl
  clear hcall h1 hx
  go_enter Tryd.func68,Tryd.ntmps68
  go_wp2_with fail
  go_quiet ((go_at_call 64;exact Y5u (HC.out _)))
  go_wp2;go_ret;refine⟨rfl,⟨A,c,?_,?_,hc,hc2,hl,hat⟩,?_⟩
  · have:=(hB.drewN nq).set 2 (.bool true)
    simpa using this
  · exact(hr.drewN nq).setCell (Z00 _) _
  · exact Y6y (Y8i (World.grownBy.refl _ _) _) _ _
theorem W7a (g:Nat) (l:List UInt8) (at_:Nat) (bad:Bool) (n:Int) (w:World) (h:Rdr w g l at_ bad) :
    Calls Tryd.prog 68 #[.pointer (some ⟨g,0,none⟩),.int .i64 n] w (NumPost w g l at_ bad n):=by
  cases bad
  · by_cases h1:1≤n∧n≤8∧(at_:Int)+n≤l.length
    · obtain⟨m,rfl⟩:=Z44 (show 0≤n by omega)
      exact W4y g l at_ m w h (by omega) (by omega) (by omega)
    · exact W7z g l at_ n w h (by omega)
  · exact W6v g l at_ n w h
def okB (l:List UInt8) (at_:Nat) (bad:Bool) (n:Int):Bool := !bad&&decide (0≤n)&&decide ((at_:Int)+n≤l.length)
def bytV (l:List UInt8) (at_:Nat) (bad:Bool) (n:Int):List UInt8:=if okB l at_ bad n then (l.drop at_).take n.toNat else []
def bytAt (l:List UInt8) (at_:Nat) (bad:Bool) (n:Int):Nat:=if okB l at_ bad n then at_+n.toNat else at_
def BytPost (w:World) (g:Nat) (l:List UInt8) (at_:Nat) (bad:Bool) (n:Int) (e:Ending) (w':World):Prop:=
  ∃r,e = .returned r∧OwB w' w.heap.size 5 r (bytV l at_ bad n)∧Rdr w' g l (bytAt l at_ bad n) (!okB l at_ bad n)∧w.grownBy w' (some g)
theorem X1y (g:Nat) (l:List UInt8) (at_ n:Nat) (w:World) (h:Rdr w g l at_ false) (h3:at_+n≤l.length) :
    Calls Tryd.prog 80 #[.pointer (some ⟨g,0,none⟩),.int .i64 n] w (BytPost w g l at_ false n):=by
  obtain⟨A,c,hB,hr,hc,hc2,hl,hat⟩:=h;have hk:okB l at_ false (n:Int)=true:=by simp [okB];omega
  unfold BytPost bytV bytAt;rw[hk,if_pos rfl,if_pos rfl,Z30];have c0:=hB.cell 0;have c1:=hB.cell 1;have c2:=hB.cell 2;simp only[Z19,List.getElem?_cons_zero,Z21]at c0 c1 c2;have f1:=hB.frz 1;have hglt:=hB.lt;have hd:decide ((n:Int)<0)=false:=(by simp);have hd2:decide ((l.length:Int)-(at_:Int)<(n:Int))=false:=by simp;omega
  clear hk
  go_enter Tryd.func80,Tryd.ntmps80
  go_wp2_with fail
  go_quiet (fail)
  go_wp2_with fail
  have B2:Bk ((w.drewN nq).setCell ⟨g,1,none⟩ (.int .i64 ((at_:Int)+n))) g 143 #[.slice A l.length c,.int .i64 ((at_:Int)+n),.bool false]:=by
    have:=(hB.drewN nq).set 1 (.int .i64 ((at_:Int)+n))
    simpa using this
  have R2:RB ((w.drewN nq).setCell ⟨g,1,none⟩ (.int .i64 ((at_:Int)+n))) g A l:=(hr.drewN nq).setCell (Z00 _) _;have G2:w.grownBy ((w.drewN nq).setCell ⟨g,1,none⟩ (.int .i64 ((at_:Int)+n))) (some g):=Y6y (Y8i (World.grownBy.refl _ _) _) _ _;clear hB hr c0 c1 c2 f1;generalize (w.drewN nq).setCell ⟨g,1,none⟩ (.int .i64 ((at_:Int)+n))=w2 at B2 R2 G2 ⊢;have c0:=B2.cell 0;have c1:=B2.cell 1;simp only[Z19,List.getElem?_cons_zero,Z21]at c0 c1;have w1:IntKind.i64.wrap (at_:Int)=at_:=IntWalk.i64_in _ (by omega);have s1:(0:Int)≤at_:=(by omega);have s2:(at_:Int)≤at_+n:=(by omega);have s3:(at_:Int)+n≤c:=(by omega);have hg2:=B2.lt
  go_region_held3 (fun w'=>w'.cell? ⟨g,0,none⟩=some (.slice A l.length c)∧w'.cell? ⟨g,1,none⟩=some (.int .i64 ((at_:Int)+n)))
    (first
      | go_keep
      | (go_split_ands
         refine⟨?_,?_⟩
         · (rw[hgr.cell_far _ (by simp;omega) (by simp [Value.ownBlock];omega)];assumption)
         · (rw[hgr.cell_far _ (by simp;omega) (by simp [Value.ownBlock];omega)];assumption)))
    ((go_loud (refine Y4x _ Y5i (by rfl) (.tmp 40) (.tmp 55) (by rfl) byteTy (by decide) w2.heap.size (.slice (some ⟨w2.heap.size,0,none⟩) 0 0) [] (by rfl) (OwL.drew (OwL.lit0 w2 (Z00 _))) g (if c=at_ then A else A.map (·.add at_)) (at_+n-at_) (c-at_) ((l.drop at_).take n) (by rfl) (by simp;omega) (RL.drew (((R2.cut hc).take n).alloc (Z12 hg2) (.cells #[] 5))) (by simp;omega) (by simp) ?_);intro v' w' hown hgr hat hbel))
  have HB:Below w2.heap.size w2 w':=(((Below.refl w2.heap.size w2).alloc (Z00 _) (.cells #[] 5)).drew).trans hbel;have GB:w.grownBy w' (some g):=X6a G2 HB
  have fin:OwB w' w.heap.size 5 v' ((l.drop at_).take n)∧Rdr w' g l (at_+n) false∧w.grownBy w' (some g):=by
    refine⟨OwL.low hown G2.size,⟨A,c,?_,R2.below HB (Z12 hg2),hc,hc2,hl,h3⟩,GB⟩
    have:=B2.below HB hg2
    rwa [←Int.natCast_add]at this
  clear hown hgr hat hbel HB GB B2 R2 G2;go_wp2
  all_goals
    go_ret;exact⟨v',rfl,fin⟩
theorem X6j (g:Nat) (l:List UInt8) (at_:Nat) (n:Int) (w:World) (h:Rdr w g l at_ true) :
    Calls Tryd.prog 80 #[.pointer (some ⟨g,0,none⟩),.int .i64 n] w (BytPost w g l at_ true n):=by
  have H:=Lib.hid h;obtain⟨A,c,hB,hr,hc,hc2,hl,hat⟩:=h;have hk:okB l at_ true (n:Int)=false:=(by simp [okB]);unfold BytPost bytV bytAt;rw[hk];have c2:=hB.cell 2;simp only[Z19,List.getElem?_cons_zero,Z21]at c2;clear hk
  go_enter Tryd.func80,Tryd.ntmps80
  go_wp2;go_ret;exact⟨_,rfl,OwL.nil,H.out,World.grownBy.refl _ _⟩
theorem X6n (g:Nat) (l:List UInt8) (at_:Nat) (n:Int) (w:World) (h:Rdr w g l at_ false) (h1:n<0∨(0≤n∧(l.length:Int)<at_+n)) :
    Calls Tryd.prog 80 #[.pointer (some ⟨g,0,none⟩),.int .i64 n] w (BytPost w g l at_ false n):=by
  obtain⟨A,c,hB,hr,hc,hc2,hl,hat⟩:=h;have hk:okB l at_ false (n:Int)=false:=by simp only[okB,Bool.not_false,Z25];rcases h1 with h1 | h1 <;> simp <;> omega
  unfold BytPost bytV bytAt;rw[hk];have c0:=hB.cell 0;have c1:=hB.cell 1;have c2:=hB.cell 2;simp only[Z19,List.getElem?_cons_zero,Z21]at c0 c1 c2;have f2:=hB.frz 2;have hglt:=hB.lt;clear hk;rcases h1 with h1 | ⟨h1,h2⟩
  · have hd:decide (n<0)=true:=by simpa using h1
    go_enter Tryd.func80,Tryd.ntmps80
    go_wp2_with fail
    go_quiet (fail)
    go_wp2;go_ret;refine⟨_,rfl,OwL.nil,⟨A,c,?_,(hr.drewN nq).setCell (Z00 _) _,hc,hc2,hl,hat⟩,Y6y (Y8i (World.grownBy.refl _ _) _) _ _⟩
    have:=(hB.drewN nq).set 2 (.bool true)
    simpa using this
  · have hd:decide (n<0)=false:=by simpa using h1
    have hd2:decide ((l.length:Int)-(at_:Int)<n)=true:=by simp;omega
    go_enter Tryd.func80,Tryd.ntmps80
    go_wp2_with fail
    go_quiet (fail)
    go_wp2;go_ret;refine⟨_,rfl,OwL.nil,⟨A,c,?_,(hr.drewN nq).setCell (Z00 _) _,hc,hc2,hl,hat⟩,Y6y (Y8i (World.grownBy.refl _ _) _) _ _⟩
    have:=(hB.drewN nq).set 2 (.bool true)
    simpa using this
theorem X6x (g:Nat) (l:List UInt8) (at_:Nat) (bad:Bool) (n:Int) (w:World) (h:Rdr w g l at_ bad) :
    Calls Tryd.prog 80 #[.pointer (some ⟨g,0,none⟩),.int .i64 n] w (BytPost w g l at_ bad n):=by
  cases bad
  · by_cases h1:0≤n∧(at_:Int)+n≤l.length
    · obtain⟨m,rfl⟩:=Z44 h1.1
      exact X1y g l at_ m w h (by omega)
    · exact X6n g l at_ n w h (by omega)
  · exact X6j g l at_ n w h
theorem X0h (g:Nat) (l:List UInt8) (at_:Nat) (bad:Bool) (w:World) (h:Rdr w g l at_ bad) :
    Calls Tryd.prog 52 #[.pointer (some ⟨g,0,none⟩)] w fun e w'=>e = .returned (.int .i64 ((l.length:Int)-at_))∧∃m,w'=w.drewN m:=by
  obtain⟨A,c,hB,hr,hc,hc2,hl,hat⟩:=h;have c0:=hB.cell 0;have c1:=hB.cell 1;simp only[Z19,List.getElem?_cons_zero,Z21]at c0 c1
  go_enter Tryd.func52,Tryd.ntmps52
  go_wp2_with fail
  go_quiet (fail)
  go_wp2;go_ret;exact⟨rfl,_,rfl⟩
theorem X5g (g:Nat) (l:List UInt8) (at_:Nat) (bad:Bool) (w:World) (h:Rdr w g l at_ bad) :
    Calls Tryd.prog 69 #[.pointer (some ⟨g,0,none⟩)] w fun e w'=>e = .returned (.bool bad)∧w=w':=by
  obtain⟨A,c,hB,hr,hc,hc2,hl,hat⟩:=h;have c2:=hB.cell 2;simp only[Z19,List.getElem?_cons_zero,Z21]at c2
  go_enter Tryd.func69,Tryd.ntmps69
  go_wp2;go_ret;exact⟨rfl,rfl⟩
open Go.RowKit
def LoA (lo:Nat) (l:List UInt8) (A:Option Addr):Prop:=l≠[]→∀ad,A=some ad→lo≤ad.block
def RdrL (w:World) (g lo:Nat) (l:List UInt8) (at_:Nat) (bad:Bool):Prop:=
  ∃A c,LoA lo l A∧Bk w g 143 #[.slice A l.length c,.int .i64 at_,.bool bad]∧RB w g A l∧l.length≤c∧(c:Int)≤9223372036854775807∧(l.length:Int)≤140737488355328∧at_≤l.length
theorem RdrL.below {w w':World} {g lo:Nat} {l:List UInt8} {at_:Nat} {bad:Bool} (h:RdrL w g lo l at_ bad) (hb:Below w.heap.size w w'):RdrL w' g lo l at_ bad:=by
  obtain⟨A,c,hA,h1,h2,r⟩:=h;exact⟨A,c,hA,h1.below hb h1.lt,h2.below hb (Z12 h1.lt),r⟩
theorem X1b (A:Option Addr) (n c:Nat) (w:World) (l:List UInt8) (hn:l.length=n) (hl:(n:Int)≤140737488355328) (hr:RB w w.heap.size A l) :
    Calls Tryd.prog 45 #[.slice A n c] w fun e w'=>∃g,e = .returned (.pointer (some ⟨g,0,none⟩))∧w.heap.size≤g∧RdrL w' g w.heap.size l 0 false∧Below w.heap.size w w':=by
  subst hn
  go_enter Tryd.func45,Tryd.ntmps45
  go_wp2_with (at_builtin;go_loud (refine Y9l _ Y5i rfl _ _ rfl byteTy (by decide) w.heap.size _ [] rfl ?c0 w.heap.size _ l.length _ l rfl rfl ?c1 ?c2 ?c3 ?_))
  case c0=>exact OwL.lit0 w (Z00 _)
  case c1=>exact hr.alloc (Z00 _) _
  case c2=>simp;omega
  case c3=>simp
  intro v1 w1 hown _ _ hb1;have hb2:=((Below.refl w.heap.size w).alloc (Z00 _) _).trans hb1;have G8:Bx (∀g,v1.ownBlock=some g→w.heap.size≤g):=bx (fun g hg=>(World.ownsRow.lt hown g hg).1)
  have Ri:Bx ((v1 = .slice none 0 0∧([]++l).length=0)∨∃g cap,v1 = .slice (some ⟨g,0,none⟩) ([]++l).length cap):=bx (by
    rcases hown.2 with⟨e,h0⟩ | ⟨g,cap,cur,e,_⟩
    · exact .inl ⟨e,h0⟩
    · exact .inr ⟨g,cap,e⟩)
  obtain⟨A1,c1,rfl,hr1,hc1⟩:=hown.rd
  have hA:LoA w.heap.size l A1:=fun hne ad e=>by
    subst e;rcases Ri.out with⟨e,h0⟩ | ⟨g,cap,e⟩
    · injection e with e _ _;cases e
    · injection e with e _ _;injection e with e;subst e;exact G8.out g rfl
  clear hb1 G8 Ri;go_wp2;go_ret;exact⟨_,rfl,hb2.size,⟨A1,c1,hA,Bk.new _ _ _,hr1.alloc (Z00 _) _,hc1.1,hc1.2,hl,by omega⟩,hb2.alloc hb2.size _⟩
def NumPostL (w:World) (g lo:Nat) (l:List UInt8) (at_:Nat) (bad:Bool) (n:Int) (e:Ending) (w':World):Prop:=
  e = .returned (.int .i64 (numV l at_ bad n))∧RdrL w' g lo l (numAt l at_ bad n) (!okN l at_ bad n)∧w.grownBy w' (some g)
theorem W6r (g lo:Nat) (l:List UInt8) (at_ n:Nat) (w:World) (h:RdrL w g lo l at_ false) (h1:1≤n) (h2:n≤8) (h3:at_+n≤l.length) :
    Calls Tryd.prog 68 #[.pointer (some ⟨g,0,none⟩),.int .i64 n] w (NumPostL w g lo l at_ false n):=by
  obtain⟨A,c,hA,hB,hr,hc,hc2,hl,hat⟩:=h;have hk:okN l at_ false (n:Int)=true:=by simp [okN];omega
  unfold NumPostL numV numAt;rw[hk,if_pos rfl,if_pos rfl,Z30];have c0:=hB.cell 0;have c1:=hB.cell 1;have c2:=hB.cell 2;simp only[Z19,List.getElem?_cons_zero,Z21]at c0 c1 c2;have f1:=hB.frz 1;have hglt:=hB.lt;clear hk
  go_enter Tryd.func68,Tryd.ntmps68
  go_wp2_with fail
  go_quiet ((go_at_call 64;exact Y5u (X3c _ _ _ _ _ l _ rfl hl hc hc2 h1 h2 h3 ((hr.more (Z12 hglt)).drewN _))))
  go_wp2;go_ret;refine⟨rfl,⟨A,c,hA,?_,?_,hc,hc2,hl,h3⟩,?_⟩
  · have:=(hB.drewN nq).set 1 (.int .i64 ((at_:Int)+n))
    simpa using this
  · exact(hr.drewN nq).setCell (Z00 _) _
  · exact Y6y (Y8i (World.grownBy.refl _ _) _) _ _
theorem X0d (g lo:Nat) (l:List UInt8) (at_:Nat) (n:Int) (w:World) (h:RdrL w g lo l at_ true) :
    Calls Tryd.prog 68 #[.pointer (some ⟨g,0,none⟩),.int .i64 n] w (NumPostL w g lo l at_ true n):=by
  have h':=h;obtain⟨A,c,hA,hB,hr,hc,hc2,hl,hat⟩:=h;have hk:okN l at_ true (n:Int)=false:=(by simp [okN]);unfold NumPostL numV numAt;rw[hk];have H:=Lib.hid h';have c2:=hB.cell 2;simp only[Z19,List.getElem?_cons_zero,Z21]at c2;clear hk h'
  go_enter Tryd.func68,Tryd.ntmps68
  go_wp2;go_ret;exact⟨rfl,H.out,World.grownBy.refl _ _⟩
theorem W9z (g lo:Nat) (l:List UInt8) (at_:Nat) (n:Int) (w:World) (h:RdrL w g lo l at_ false) (h1:n<1∨8<n∨(1≤n∧n≤8∧(l.length:Int)<at_+n)) :
    Calls Tryd.prog 68 #[.pointer (some ⟨g,0,none⟩),.int .i64 n] w (NumPostL w g lo l at_ false n):=by
  obtain⟨A,c,hA,hB,hr,hc,hc2,hl,hat⟩:=h;have hk:okN l at_ false (n:Int)=false:=by simp only[okN,Bool.not_false,Z25];rcases h1 with h1 | h1 | h1 <;> simp <;> omega
  unfold NumPostL numV numAt;rw[hk];have c0:=hB.cell 0;have c1:=hB.cell 1;have c2:=hB.cell 2;simp only[Z19,List.getElem?_cons_zero,Z21]at c0 c1 c2;have f2:=hB.frz 2;have hglt:=hB.lt;clear hk
  obtain⟨x,hx,hcall⟩:∃x:Int,(x=1∨x=2)∧∀W:World,Calls Tryd.prog 64 #[.slice A l.length c,.int .i64 at_,.int .i64 n] W fun e w'=>e = .returned (.tuple #[.int .i64 0,.int .i64 x])∧W=w':=by
    rcases h1 with h1 | h1 | h1
    · exact⟨1,.inl rfl,fun W=>Y3e _ _ _ _ _ W (.inl h1)⟩
    · exact⟨1,.inl rfl,fun W=>Y3e _ _ _ _ _ W (.inr (.inl h1))⟩
    · exact⟨2,.inr rfl,fun W=>Y1n _ _ _ _ _ W hl h1.1 h1.2.1 (by omega) (by omega)⟩
  have HC:=Lib.hid hcall;have hx0:((x:Int) != 0)=true:=by rcases hx with rfl | rfl <;> rfl
  clear hcall h1 hx
  go_enter Tryd.func68,Tryd.ntmps68
  go_wp2_with fail
  go_quiet ((go_at_call 64;exact Y5u (HC.out _)))
  go_wp2;go_ret;refine⟨rfl,⟨A,c,hA,?_,?_,hc,hc2,hl,hat⟩,?_⟩
  · have:=(hB.drewN nq).set 2 (.bool true)
    simpa using this
  · exact(hr.drewN nq).setCell (Z00 _) _
  · exact Y6y (Y8i (World.grownBy.refl _ _) _) _ _
theorem X9y (g lo:Nat) (l:List UInt8) (at_:Nat) (bad:Bool) (n:Int) (w:World) (h:RdrL w g lo l at_ bad) :
    Calls Tryd.prog 68 #[.pointer (some ⟨g,0,none⟩),.int .i64 n] w (NumPostL w g lo l at_ bad n):=by
  cases bad
  · by_cases h1:1≤n∧n≤8∧(at_:Int)+n≤l.length
    · obtain⟨m,rfl⟩:=Z44 (show 0≤n by omega)
      exact W6r g lo l at_ m w h (by omega) (by omega) (by omega)
    · exact W9z g lo l at_ n w h (by omega)
  · exact X0d g lo l at_ n w h
def BytPostL (w:World) (g lo:Nat) (l:List UInt8) (at_:Nat) (bad:Bool) (n:Int) (e:Ending) (w':World):Prop:=
  ∃r,e = .returned r∧OwB w' w.heap.size 5 r (bytV l at_ bad n)∧RdrL w' g lo l (bytAt l at_ bad n) (!okB l at_ bad n)∧w.grownBy w' (some g)
theorem X5w (g lo:Nat) (l:List UInt8) (at_ n:Nat) (w:World) (h:RdrL w g lo l at_ false) (h3:at_+n≤l.length) :
    Calls Tryd.prog 80 #[.pointer (some ⟨g,0,none⟩),.int .i64 n] w (BytPostL w g lo l at_ false n):=by
  obtain⟨A,c,hA,hB,hr,hc,hc2,hl,hat⟩:=h;have hk:okB l at_ false (n:Int)=true:=by simp [okB];omega
  unfold BytPostL bytV bytAt;rw[hk,if_pos rfl,if_pos rfl,Z30];have c0:=hB.cell 0;have c1:=hB.cell 1;have c2:=hB.cell 2;simp only[Z19,List.getElem?_cons_zero,Z21]at c0 c1 c2;have f1:=hB.frz 1;have hglt:=hB.lt;have hd:decide ((n:Int)<0)=false:=(by simp);have hd2:decide ((l.length:Int)-(at_:Int)<(n:Int))=false:=by simp;omega
  clear hk
  go_enter Tryd.func80,Tryd.ntmps80
  go_wp2_with fail
  go_quiet (fail)
  go_wp2_with fail
  have B2:Bk ((w.drewN nq).setCell ⟨g,1,none⟩ (.int .i64 ((at_:Int)+n))) g 143 #[.slice A l.length c,.int .i64 ((at_:Int)+n),.bool false]:=by
    have:=(hB.drewN nq).set 1 (.int .i64 ((at_:Int)+n))
    simpa using this
  have R2:RB ((w.drewN nq).setCell ⟨g,1,none⟩ (.int .i64 ((at_:Int)+n))) g A l:=(hr.drewN nq).setCell (Z00 _) _;have G2:w.grownBy ((w.drewN nq).setCell ⟨g,1,none⟩ (.int .i64 ((at_:Int)+n))) (some g):=Y6y (Y8i (World.grownBy.refl _ _) _) _ _;clear hB hr c0 c1 c2 f1;generalize (w.drewN nq).setCell ⟨g,1,none⟩ (.int .i64 ((at_:Int)+n))=w2 at B2 R2 G2 ⊢;have c0:=B2.cell 0;have c1:=B2.cell 1;simp only[Z19,List.getElem?_cons_zero,Z21]at c0 c1;have w1:IntKind.i64.wrap (at_:Int)=at_:=IntWalk.i64_in _ (by omega);have s1:(0:Int)≤at_:=(by omega);have s2:(at_:Int)≤at_+n:=(by omega);have s3:(at_:Int)+n≤c:=(by omega);have hg2:=B2.lt
  go_region_held3 (fun w'=>w'.cell? ⟨g,0,none⟩=some (.slice A l.length c)∧w'.cell? ⟨g,1,none⟩=some (.int .i64 ((at_:Int)+n)))
    (first
      | go_keep
      | (go_split_ands
         refine⟨?_,?_⟩
         · (rw[hgr.cell_far _ (by simp;omega) (by simp [Value.ownBlock];omega)];assumption)
         · (rw[hgr.cell_far _ (by simp;omega) (by simp [Value.ownBlock];omega)];assumption)))
    ((go_loud (refine Y4x _ Y5i (by rfl) (.tmp 40) (.tmp 55) (by rfl) byteTy (by decide) w2.heap.size (.slice (some ⟨w2.heap.size,0,none⟩) 0 0) [] (by rfl) (OwL.drew (OwL.lit0 w2 (Z00 _))) g (if c=at_ then A else A.map (·.add at_)) (at_+n-at_) (c-at_) ((l.drop at_).take n) (by rfl) (by simp;omega) (RL.drew (((R2.cut hc).take n).alloc (Z12 hg2) (.cells #[] 5))) (by simp;omega) (by simp) ?_);intro v' w' hown hgr hat hbel))
  have HB:Below w2.heap.size w2 w':=(((Below.refl w2.heap.size w2).alloc (Z00 _) (.cells #[] 5)).drew).trans hbel;have GB:w.grownBy w' (some g):=X6a G2 HB
  have fin:OwB w' w.heap.size 5 v' ((l.drop at_).take n)∧RdrL w' g lo l (at_+n) false∧w.grownBy w' (some g):=by
    refine⟨OwL.low hown G2.size,⟨A,c,hA,?_,R2.below HB (Z12 hg2),hc,hc2,hl,h3⟩,GB⟩
    have:=B2.below HB hg2
    rwa [←Int.natCast_add]at this
  clear hown hgr hat hbel HB GB B2 R2 G2;go_wp2
  all_goals
    go_ret;exact⟨v',rfl,fin⟩
theorem X7c (g lo:Nat) (l:List UInt8) (at_:Nat) (n:Int) (w:World) (h:RdrL w g lo l at_ true) :
    Calls Tryd.prog 80 #[.pointer (some ⟨g,0,none⟩),.int .i64 n] w (BytPostL w g lo l at_ true n):=by
  have H:=Lib.hid h;obtain⟨A,c,hA,hB,hr,hc,hc2,hl,hat⟩:=h;have hk:okB l at_ true (n:Int)=false:=(by simp [okB]);unfold BytPostL bytV bytAt;rw[hk];have c2:=hB.cell 2;simp only[Z19,List.getElem?_cons_zero,Z21]at c2;clear hk
  go_enter Tryd.func80,Tryd.ntmps80
  go_wp2;go_ret;exact⟨_,rfl,OwL.nil,H.out,World.grownBy.refl _ _⟩
theorem X7e (g lo:Nat) (l:List UInt8) (at_:Nat) (n:Int) (w:World) (h:RdrL w g lo l at_ false) (h1:n<0∨(0≤n∧(l.length:Int)<at_+n)) :
    Calls Tryd.prog 80 #[.pointer (some ⟨g,0,none⟩),.int .i64 n] w (BytPostL w g lo l at_ false n):=by
  obtain⟨A,c,hA,hB,hr,hc,hc2,hl,hat⟩:=h;have hk:okB l at_ false (n:Int)=false:=by simp only[okB,Bool.not_false,Z25];rcases h1 with h1 | h1 <;> simp <;> omega
  unfold BytPostL bytV bytAt;rw[hk];have c0:=hB.cell 0;have c1:=hB.cell 1;have c2:=hB.cell 2;simp only[Z19,List.getElem?_cons_zero,Z21]at c0 c1 c2;have f2:=hB.frz 2;have hglt:=hB.lt;clear hk;rcases h1 with h1 | ⟨h1,h2⟩
  · have hd:decide (n<0)=true:=by simpa using h1
    go_enter Tryd.func80,Tryd.ntmps80
    go_wp2_with fail
    go_quiet (fail)
    go_wp2;go_ret;refine⟨_,rfl,OwL.nil,⟨A,c,hA,?_,(hr.drewN nq).setCell (Z00 _) _,hc,hc2,hl,hat⟩,Y6y (Y8i (World.grownBy.refl _ _) _) _ _⟩
    have:=(hB.drewN nq).set 2 (.bool true)
    simpa using this
  · have hd:decide (n<0)=false:=by simpa using h1
    have hd2:decide ((l.length:Int)-(at_:Int)<n)=true:=by simp;omega
    go_enter Tryd.func80,Tryd.ntmps80
    go_wp2_with fail
    go_quiet (fail)
    go_wp2;go_ret;refine⟨_,rfl,OwL.nil,⟨A,c,hA,?_,(hr.drewN nq).setCell (Z00 _) _,hc,hc2,hl,hat⟩,Y6y (Y8i (World.grownBy.refl _ _) _) _ _⟩
    have:=(hB.drewN nq).set 2 (.bool true)
    simpa using this
theorem X8d (g lo:Nat) (l:List UInt8) (at_:Nat) (bad:Bool) (n:Int) (w:World) (h:RdrL w g lo l at_ bad) :
    Calls Tryd.prog 80 #[.pointer (some ⟨g,0,none⟩),.int .i64 n] w (BytPostL w g lo l at_ bad n):=by
  cases bad
  · by_cases h1:0≤n∧(at_:Int)+n≤l.length
    · obtain⟨m,rfl⟩:=Z44 h1.1
      exact X5w g lo l at_ m w h (by omega)
    · exact X7e g lo l at_ n w h (by omega)
  · exact X7c g lo l at_ n w h
theorem Y1o (g lo:Nat) (l:List UInt8) (at_:Nat) (bad:Bool) (w:World) (h:RdrL w g lo l at_ bad) :
    Calls Tryd.prog 52 #[.pointer (some ⟨g,0,none⟩)] w fun e w'=>e = .returned (.int .i64 ((l.length:Int)-at_))∧∃m,w'=w.drewN m:=by
  obtain⟨A,c,hA,hB,hr,hc,hc2,hl,hat⟩:=h;have c0:=hB.cell 0;have c1:=hB.cell 1;simp only[Z19,List.getElem?_cons_zero,Z21]at c0 c1
  go_enter Tryd.func52,Tryd.ntmps52
  go_wp2_with fail
  go_quiet (fail)
  go_wp2;go_ret;exact⟨rfl,_,rfl⟩
theorem Y8d (g lo:Nat) (l:List UInt8) (at_:Nat) (bad:Bool) (w:World) (h:RdrL w g lo l at_ bad) :
    Calls Tryd.prog 69 #[.pointer (some ⟨g,0,none⟩)] w fun e w'=>e = .returned (.bool bad)∧w=w':=by
  obtain⟨A,c,hA,hB,hr,hc,hc2,hl,hat⟩:=h;have c2:=hB.cell 2;simp only[Z19,List.getElem?_cons_zero,Z21]at c2
  go_enter Tryd.func69,Tryd.ntmps69
  go_wp2;go_ret;exact⟨rfl,rfl⟩
open Go.RowKit
inductive SeqT where
 | fin
 | tk (i:Nat) (r:SeqT)
 | alt (i:Nat) (t r:SeqT)
 | non
def SeqT.alts:SeqT→List Nat
 | .alt i _ r=>i::r.alts
 | _=>[]
def SeqT.dep:SeqT→Nat
 | .fin=>0
 | .tk _ r=>r.dep+1
 | .alt _ t r=>max (t.dep+1) r.dep
 | .non=>0
def SeqT.rn (i:Nat) (t:SeqT):SeqT := .alt i t .non
section
variable {P:Program} {ops:Array Oper} {Q:Exit→Act→World→Prop} {S:World→Prop}
def SeqW (P:Program) (ops:Array Oper) (Q:Exit→Act→World→Prop) (S:World→Prop):SeqT→Act→World→Prop
 | .fin,a,w=>Q .normal a w
 | .tk i r,a,w=>∃o,ops[i]? = some o∧∃v,YieldsIf P ops S o v a∧SeqW P ops Q S r (a.put o.dst v) w
 | .alt i t r,a,w=>(∃o,ops[i]? = some o∧∀K:Exit→Act→World→Prop,(∀a w,S w→SeqW P ops Q S t a w→K .normal a w)→(∀c a w,Q (.panic c) a w→K (.panic c) a w)→wpList P ops K [o] a w)∧SeqW P ops Q S r a w
 | .non,_,_=>True
def seqB (ops:Array Oper):Bool→SeqT→Array Bool→Bool
 | h,.fin,listed=>h&&(Region.ready .any ops listed).isEmpty
 | h,.tk i r,listed=>h&&(Region.free .any ops listed i&&(Region.ready .any ops listed).contains i)&&seqB ops true r (listed.setIfInBounds i true)
 | h,.alt i t r,listed=>(!h||Region.ready .any ops listed==i::r.alts)&&seqB ops true t (listed.setIfInBounds i true)&&seqB ops false r listed
 | h,.non,_ => !h
theorem SeqW.done {a:Act} {w:World} (h:Q .normal a w):SeqW P ops Q S .fin a w:=h
theorem SeqW.take {i:Nat} {r:SeqT} {a:Act} {w:World} {o:Oper} {v:Value} (ho:ops[i]? = some o) (hy:YieldsIf P ops S o v a) (h:SeqW P ops Q S r (a.put o.dst v) w):SeqW P ops Q S (.tk i r) a w:=by
 unfold SeqW;exact⟨o,ho,v,hy,h⟩
theorem SeqW.both {i:Nat} {t r:SeqT} {a:Act} {w:World} {o:Oper} (ho:ops[i]? = some o)
  (h:∀K:Exit→Act→World→Prop,Shut (∀a w,S w→SeqW P ops Q S t a w→K .normal a w)→Shut (∀c a w,Q (.panic c) a w→K (.panic c) a w)→wpList P ops K [o] a w) (hr:SeqW P ops Q S r a w):SeqW P ops Q S (.alt i t r) a w:=by
 unfold SeqW;exact⟨⟨o,ho,fun K h1 h2=>h K h1 h2⟩,hr⟩
theorem SeqW.no {a:Act} {w:World}:SeqW P ops Q S .non a w:=by unfold SeqW;trivial
theorem SeqW.run {i:Nat} {t:SeqT} {a:Act} {w:World} {o:Oper} (ho:ops[i]? = some o)
  (h:∀K:Exit→Act→World→Prop,Shut (∀a w,S w→SeqW P ops Q S t a w→K .normal a w)→Shut (∀c a w,Q (.panic c) a w→K (.panic c) a w)→wpList P ops K [o] a w):SeqW P ops Q S (.rn i t) a w:=SeqW.both ho h SeqW.no
theorem Y4u {i:Nat} {o:Oper} {a:Act} {w:World} {K:Act→World→Prop} (ho:ops[i]? = some o)
  (h:wpList P ops (fun e a w=>match e with | .normal=>K a w | e=>Q e a w) [o] a w):wpOp P ops Q i K a w:=by
 unfold wpOp;simp only[ho];unfold wpList at h
 split
 ·rename_i hw
  rw[if_pos hw]at h;rcases h with h | ⟨h1,h2⟩
  ·left
   unfold Oper.wp at *;generalize (execOp a.eval o).run P w=r at *;cases r with
   | ok n w'=>
    cases n <;> simp only[Oper.upon,wpList]at h ⊢
    case value u=>exact h
    case skip=>exact h
    case defer d=>exact h
    case enter f args=>
     refine Calls.mono h fun e w'' he=>?_;cases e with
     | returned u=>exact he
     | panicked c=>exact he
     | outgrown=>exact he
    case row row args=>exact Rows.mono h fun u w'' he=>he
   | halt x w'=>cases x <;> simp only[Oper.upon]at h ⊢ <;> exact h
  ·right
   exact⟨h1,h2⟩
 ·rename_i hw
  rw[if_neg hw]at h;exact h
theorem X7b (hs:Region.noSelect ops=true) (hQ:∀ts c (a:Act) w,Q (.panic c) { a with tmps:=ts } w→Q (.panic c) a w) (T:SeqT) :
  (∀(fuel:Nat) (listed:Array Bool) (a:Act) (w:World),T.dep≤fuel→seqB ops true T listed=true→S w→SeqW P ops Q S T a w→wpAnyH P .any ops Q S fuel listed a w) ∧
  (∀(fuel:Nat) (listed:Array Bool) (a:Act) (w:World),T.dep≤fuel+1→seqB ops false T listed=true→SeqW P ops Q S T a w→∀i∈T.alts,wpOp P ops Q i (fun a' w'=>S w'∧wpAnyH P .any ops Q S fuel (listed.setIfInBounds i true) a' w') a w):=by
 induction T with
 | fin=>refine⟨fun fuel listed a w _ hb _ h=>?_,fun fuel listed a w _ hb=>by simp [seqB]at hb⟩;simp only[seqB,Z25]at hb;exact wpAnyH_done (List.isEmpty_iff.1 hb) h fuel
 | non=>exact⟨fun fuel listed a w _ hb=>by simp [seqB]at hb,fun fuel listed a w _ _ _ i hi=>by simp [SeqT.alts]at hi⟩
 | tk i r ih=>
  refine⟨fun fuel listed a w hl hb hS h=>?_,fun fuel listed a w _ hb=>by simp [seqB]at hb⟩;obtain⟨f,rfl⟩:∃f,fuel=f+1:=⟨fuel-1,by simp [SeqT.dep]at hl;omega⟩
  replace hl:r.dep≤f:=by simpa [SeqT.dep] using hl
  simp only[seqB,Z25,Z20]at hb;unfold SeqW at h;obtain⟨o,ho,v,hy,h⟩:=h
  exact wpAnyH_take ho hs hb.1.1 (by simpa using hb.1.2) (fun c a w h=>by
   unfold Act.put at h;cases hd:o.dst with
   | none=>rw[hd]at h;exact h
   | some t=>rw[hd]at h;exact hQ _ c a w h) hy hS (ih.1 f _ _ _ hl hb.2 hS h)
 | alt i t r iht ihr=>
  have key:∀(fuel:Nat) (listed:Array Bool) (a:Act) (w:World),(SeqT.alt i t r).dep≤fuel+1→seqB ops true t (listed.setIfInBounds i true)=true→seqB ops false r listed=true→SeqW P ops Q S (.alt i t r) a w→∀j∈(SeqT.alt i t r).alts,wpOp P ops Q j (fun a' w'=>S w'∧wpAnyH P .any ops Q S fuel (listed.setIfInBounds j true) a' w') a w:=by
   intro fuel listed a w hl h1 h2 h j hj;unfold SeqW at h;simp only[SeqT.dep]at hl;obtain⟨⟨o,ho,h⟩,hr⟩:=h;simp only[SeqT.alts,Z23]at hj;rcases hj with rfl | hj
   ·refine Y4u ho (h _ ?_ ?_)
    ·intro a w hS h
     exact⟨hS,iht.1 fuel _ _ _ (by omega) h1 hS h⟩
    ·intro c a w h
     exact h
   ·exact ihr.2 fuel listed a w (by omega) h2 hr j hj
  refine⟨fun fuel listed a w hl hb hS h=>?_,fun fuel listed a w hl hb h=>?_⟩
  ·obtain⟨f,rfl⟩:∃f,fuel=f+1:=⟨fuel-1,by simp [SeqT.dep]at hl;omega⟩
   simp only[seqB,Bool.not_true,Bool.false_or,Z20,beq_iff_eq]at hb;exact wpAnyH_all hb.1.1 (by simp) (key f listed a w hl hb.1.2 hb.2 h)
  ·simp only[seqB,Bool.not_false,Bool.true_or,Z25,Z20]at hb
   exact key fuel listed a w hl hb.1 hb.2 h
theorem Y9x {id:Nat} {a:Act} {w:World} (T:SeqT) (hm:P.follows .mixedOrders=true) (hs:Region.noSelect ops=true)
  (hb:(decide (T.dep≤ops.size)&&seqB ops true T (Array.replicate ops.size false))=true)
  (hQ:∀ts c (a:Act) w,Q (.panic c) { a with tmps:=ts } w→Q (.panic c) a w) (hS:S w.drew) (h:SeqW P ops Q S T a w.drew):(Code.region id ops true).wp P Q a w:=by
 rw[Z20]at hb;exact wp_region_held_drew hm hS fun hS=>(X7b hs hQ T).1 _ _ a _ (Z49 hb.1) hb.2 hS h
end
open Go.RowKit
theorem X2l {s:ByteArray} {k:Nat} (h:k<s.size):s.data.toList.drop k=s[k]::s.data.toList.drop (k+1):=by
 have h':k<s.data.toList.length:=h;rw[Z42 h'];rfl
open Go.RowKit
def HeadPost (s:ByteArray) (w:World) (e:Ending) (w':World):Prop:=
 (headN s.data.toList=0→e = .returned (.tuple #[.string .empty,.string .empty,.bool false])) ∧
 (∀h,headN s.data.toList=h+1→e = .returned (.tuple #[.string (s.extract 0 (h+1)),.string (s.extract (h+1) s.size),.bool true]))∧Below w.heap.size w w'
theorem Y7v {s:ByteArray} {w:World} {w':World} (h:headN s.data.toList=0) (hb:Below w.heap.size w w'):HeadPost s w (.returned (.tuple #[.string .empty,.string .empty,.bool false])) w':=
 ⟨fun _=>rfl,fun _ h'=>by omega,hb⟩
theorem Y6a {s:ByteArray} {w:World} {w':World} {n:Nat} (h:headN s.data.toList=n+1) {a b:ByteArray} (ha:a=s.extract 0 (n+1)) (hc:b=s.extract (n+1) s.size) (hb:Below w.heap.size w w') :
  HeadPost s w (.returned (.tuple #[.string a,.string b,.bool true])) w':=by
 subst ha;subst hc
 exact⟨fun _=>by omega,fun k hk=>by
  obtain rfl:n=k:=by omega
  rfl,hb⟩
theorem Y0e (c:UInt8):0≤Lib.indexByte [66,67,83,90,73,74] c↔c∈primL:=Y7l primL c
theorem X3z {l:List UInt8} (h:8<skipB l):headN l=0:=by unfold headN;rw[if_pos h]
theorem X5m {l:List UInt8} (h:skipB l=l.length):headN l=0:=by
 unfold headN
 split
 ·rfl
 ·rw[h,List.getElem?_eq_none (Z00 _)]
theorem X7n {l:List UInt8} {c:UInt8} {k:Nat} (hk:skipB l=k) (h:¬8<k) (hc:l[k]? = some c) (hp:c∈primL):headN l=k+1:=by
 subst hk;unfold headN;rw[if_neg h,hc];simp [hp]
theorem Y0u {l:List UInt8} {c:UInt8} {k:Nat} (hk:skipB l=k) (hc:l[k]? = some c) (hp:¬c∈primL) (h7:¬c=76):headN l=0:=by
 subst hk;unfold headN
 split
 ·rfl
 ·rw[hc];simp [hp,h7]
theorem Y2n {l:List UInt8} {c:UInt8} {k:Nat} (hk:skipB l=k) (hc:l[k]? = some c) (hp:¬c∈primL) (h7:Lib.indexByte l 59<0):headN l=0:=by
 subst hk;unfold headN
 split
 ·rfl
 ·rw[hc];simp [hp];intro _ h;omega
theorem Y1m {l:List UInt8} {k j:Nat} (hk:skipB l=k) (h:¬8<k) (hc:l[k]? = some 76) (hj:Lib.indexByte l 59=j) (ho:classOk ((l.drop (k+1)).take (j-(k+1)))=true):headN l=j+1:=by
 subst hk;unfold headN;rw[if_neg h,hc];simp [hj,ho,primL]
theorem Y3r {l:List UInt8} {k j:Nat} (hk:skipB l=k) (hc:l[k]? = some 76) (hj:Lib.indexByte l 59=j) (ho:classOk ((l.drop (k+1)).take (j-(k+1)))=false):headN l=0:=by
 subst hk;unfold headN
 split
 ·rfl
 ·rw[hc];simp [hj,ho,primL]
theorem Y7t (s:ByteArray) (a b:Nat):(s.extract a b).data.toList=(s.data.toList.drop a).take (b-a):=by
 rw[ByteArray.data_extract,Array.toList_extract,List.extract_eq_take_drop]
theorem Y1y (s:ByteArray) (m:Int) (w:World) (hs:s.size≤140737488355328) (hm:w.cell? ⟨0,0,none⟩=some (.int .i64 m)) :
  Calls Tryd.prog 74 #[.string s] w (HeadPost s w):=by
 go_enter Tryd.func74,Tryd.ntmps74
 go_wp2
 go_loop [5] (fun i=>∃k:Nat,k≤s.size∧i = .int .i64 (k:Int)∧Hid (skipB s.data.toList=k+skipB (s.data.toList.drop k))) (fun i=>s.size-(intOf i).toNat)
 case atStart=>exact⟨0,by omega,rfl,Lib.hid (by simp)⟩
 case round=>
  obtain⟨k,hk,rfl,hall⟩:=hrel;by_cases hk0:k<s.size
  ·by_cases h91:s[k]=91
   ·have h91':(s[k].toNat:Int)=91:=by rw[h91];rfl
    have B6:=Lib.hid h91;clear h91;go_wp2
    go_round
    case rel=>exact⟨k+1,by omega,by go_num,Lib.hid (X7g (byteAt hk0) hall.out B6.out)⟩
    case measure=>simp [intOf];omega
   ·have h91':¬(s[k].toNat:Int)=91:=fun e=>h91 (UInt8.toNat_inj.1 (by simpa using (by omega:s[k].toNat=91)))
    have hsk:=Lib.hid (X7o (byteAt hk0) hall.out h91);have hat:=Lib.hid (byteAt hk0);have hne:((k:Int)==(s.size:Int))=false:=by simp;omega
    have hi76:Lib.indexByte [66,67,83,90,73,74] 76<0:=(by decide);clear h91;by_cases h8:8<k
    ·go_wp2
     go_ret3;exact Y7v (X3z (by rw[hsk.out];exact h8)) (Below.refl _ _)
    ·by_cases hp:0≤Lib.indexByte [66,67,83,90,73,74] s[k]
     ·have hp':=Lib.hid ((Y0e _).1 hp)
      go_wp2_with (go_at_call 75;refine(Tryd.strings_IndexByte _ _ _).mono ?_;rintro e w' ⟨rfl,rfl⟩)
      have s1:IntKind.i64.wrap ((k:Int)+1)=(k:Int)+1:=IntWalk.i64_in _ (by omega);have s2:(0:Int)≤(k:Int)+1:=(by omega);have s3:(k:Int)+1≤(s.size:Int):=(by omega);have s4:((k:Int)+1).toNat=k+1:=(by omega);go_quiet (fail)
      go_wp2;go_ret3;exact Y6a (X7n hsk.out h8 hat.out hp'.out) rfl rfl (below_drewN (Below.refl _ _) _)
     ·have hp':=Lib.hid (fun h=>hp ((Y0e _).2 h))
      by_cases h76:s[k]=76
      ·have h76':(s[k].toNat:Int)=76:=by rw[h76];rfl
       have Cc:Hid (s.data.toList[k]? = some 76):=by rw[←h76];exact byteAt hk0
       clear h76;by_cases hj0:Lib.indexByte s.data.toList 59<0
       ·go_wp2_with (go_at_call 75;refine(Tryd.strings_IndexByte _ _ _).mono ?_;rintro e w' ⟨rfl,rfl⟩)
        go_ret3;exact Y7v (Y2n hsk.out hat.out hp'.out hj0) (Below.refl _ _)
       ·obtain⟨j,hj⟩:=Z44 (show 0≤Lib.indexByte s.data.toList 59 by omega)
        obtain⟨hj1,hj2⟩:k+1≤j∧j<s.size:=by
         have h:=Y5j (l:=s.data.toList) (by rw[hsk.out];exact Cc.out) (by omega);rw[hj,hsk.out]at h
         simpa using h
        have HJ:=Lib.hid hj;have hcd:=Lib.hid (Y7t s (k+1) j);clear hj hj0;cases hok:(decide ((s.extract (k+1) j).size≤58)&&classGo (s.extract (k+1) j).data.toList 0)
        ·have HO:=Lib.hid hok
         clear hok;go_wp2_with fail
         refine(Tryd.strings_IndexByte _ _ _).mono ?_
         rintro e w' ⟨rfl,rfl⟩;go_wp2_with fail
         refine(Tryd.strings_IndexByte _ _ _).mono ?_
         rintro e w' ⟨rfl,rfl⟩;rw[show Lib.indexByte s.data.toList (Int.toNat 59).toUInt8=j from HJ.out];go_wp2_with fail
         refine(Y6k _ m _ (by rw[ByteArray.size_extract];omega) hm).mono ?_
         rintro e w1 ⟨rfl,hb⟩;rw[HO.out];go_wp2;go_ret3;exact Y7v (Y3r hsk.out Cc.out HJ.out (by unfold classOk;rw[←hcd.out];exact HO.out)) hb
        ·have HO:=Lib.hid hok
         clear hok;go_wp2_with fail
         refine(Tryd.strings_IndexByte _ _ _).mono ?_
         rintro e w' ⟨rfl,rfl⟩;go_wp2_with fail
         refine(Tryd.strings_IndexByte _ _ _).mono ?_
         rintro e w' ⟨rfl,rfl⟩;rw[show Lib.indexByte s.data.toList (Int.toNat 59).toUInt8=j from HJ.out];go_wp2_with fail
         refine(Y6k _ m _ (by rw[ByteArray.size_extract];omega) hm).mono ?_
         rintro e w1 ⟨rfl,hb⟩;rw[HO.out];have s1:IntKind.i64.wrap ((j:Int)+1)=(j:Int)+1:=IntWalk.i64_in _ (by omega);have s2:(0:Int)≤(j:Int)+1:=(by omega);have s3:(j:Int)+1≤(s.size:Int):=(by omega);have s4:((j:Int)+1).toNat=j+1:=(by omega);go_wp2_with fail
         go_quiet (fail)
         go_wp2;go_ret3;exact Y6a (Y1m hsk.out h8 Cc.out HJ.out (by unfold classOk;rw[←hcd.out];exact HO.out)) rfl rfl (below_drewN hb _)
      ·have h76':¬(s[k].toNat:Int)=76:=fun e=>h76 (UInt8.toNat_inj.1 (by simpa using (by omega:s[k].toNat=76)))
       have Cc:=Lib.hid h76;clear h76;go_wp2_with (go_at_call 75;refine(Tryd.strings_IndexByte _ _ _).mono ?_;rintro e w' ⟨rfl,rfl⟩)
       all_goals
        go_ret3;exact Y7v (Y0u hsk.out hat.out hp'.out Cc.out) (Below.refl _ _)
  ·obtain rfl:k=s.size:=by omega
   go_wp2
   all_goals
    go_ret3;exact Y7v (X5m (X7z (Z00 _) hall.out)) (Below.refl _ _)
open Go.RowKit
theorem u8ne {c:UInt8} {n:Nat} (h:¬c=UInt8.ofNat n) (hn:n<256):¬(c.toNat:Int)=n:=fun e=>h (UInt8.toNat_inj.1 (by rw[UInt8.toNat_ofNat'];omega))
open Go.RowKit
theorem Y0y (s:ByteArray) (a:Nat) (h:a≤s.size):(s.extract a s.size).toList.isEmpty=decide (a=s.size):=by
 rw[Lib.toList_data,Y7t,Bool.eq_iff_iff]
 simp;omega
theorem Y3u (s:ByteArray) (m:Int) (w:World) (hs:s.size≤140737488355328) (hm:w.cell? ⟨0,0,none⟩=some (.int .i64 m)) :
  Calls Tryd.prog 58 #[.string s] w fun e w'=>e = .returned (.bool (descB s.data.toList))∧Below w.heap.size w w':=by
 have hle:headN s.data.toList≤s.size:=Y0c _;have hds:descB s.data.toList=(decide (0<headN s.data.toList)&&decide (headN s.data.toList=s.size)):=rfl;rw[hds];obtain⟨h,hh⟩:∃h,headN s.data.toList=h:=⟨_,rfl⟩;rw[hh]at hle ⊢;have HH:=Lib.hid hh;have HP:=Lib.hid (Y1y s m w hs hm);clear hh hds;cases h with
 | zero=>
  go_enter Tryd.func58,Tryd.ntmps58
  go_wp2_with (go_at_call 74;refine(HP.out).mono ?_;rintro e w' ⟨h1,_,hb⟩;have h2:=h1 HH.out;clear h1;subst h2)
  go_ret;exact⟨rfl,hb⟩
 | succ h=>
  have HE:=Lib.hid (Y0y s (h+1) hle)
  go_enter Tryd.func58,Tryd.ntmps58
  go_wp2_with (go_at_call 74;refine(HP.out).mono ?_;rintro e w' ⟨_,h1,hb⟩;have h2:=h1 _ HH.out;clear h1;subst h2)
  go_ret;refine⟨ret_bool ?_,hb⟩;rw[HE.out];simp
theorem Y3q (s:ByteArray) (k:Nat):(s.extract k s.size).data.toList=s.data.toList.drop k:=by
 rw[Y7t];exact Z15 (by simp)
theorem X1f (s:ByteArray) (k:Nat):(s.extract 0 k).data.toList=s.data.toList.take k:=by
 rw[Y7t];simp
open Go.RowKit
theorem X8r {l:List UInt8} (h1:¬l=[74]) (h2:¬l=[]) (h3:¬l=[86]):slotsN l=1:=by unfold slotsN;rw[if_neg h1,if_neg (by simp [h2,h3])]
theorem Y2a (s:ByteArray) (w:World) :
  Calls Tryd.prog 65 #[.string s] w fun e w'=>e = .returned (.int .i64 (slotsN s.data.toList))∧w=w':=by
 by_cases h1:s.data.toList=[74]
 ·obtain rfl:s=⟨#[74]⟩:=X7d h1
  clear h1
  go_enter Tryd.func65,Tryd.ntmps65
  go_wp2;go_ret;exact⟨rfl,rfl⟩
 ·by_cases h2:s.data.toList=[]
  ·obtain rfl:s=⟨#[]⟩:=X7d h2
   clear h1 h2
   go_enter Tryd.func65,Tryd.ntmps65
   go_wp2;go_ret;exact⟨rfl,rfl⟩
  ·by_cases h3:s.data.toList=[86]
   ·obtain rfl:s=⟨#[86]⟩:=X7d h3
    clear h1 h2 h3
    go_enter Tryd.func65,Tryd.ntmps65
    go_wp2;go_ret;exact⟨rfl,rfl⟩
   ·rw[X8r h1 h2 h3]
    have g1:=tl_ne h1;have g2:=X2o h2;have g3:=tl_ne h3;clear h1 h2 h3
    go_enter Tryd.func65,Tryd.ntmps65
    go_wp2;go_ret;exact⟨rfl,rfl⟩
open Go.RowKit
theorem noslash (l:List UInt8):decide (Lib.indexByte l 47<0) = !l.contains 47:=by
 rw[Bool.eq_iff_iff];have h:=Y7l l 47;simp only[decide_eq_true_eq,Bool.not_eq_true',List.contains_eq_mem,decide_eq_false_iff_not];rw[←h];omega
theorem Y2d (s:ByteArray) (meth:Bool) (w:World) (hs:s.size≤140737488355328) (h:meth=false∨(¬s.data.toList=initL∧¬s.data.toList=clinitL)) :
  Calls Tryd.prog 59 #[.string s,.bool meth] w fun e w'=>e = .returned (.bool (plainName s.data.toList))∧w=w':=by
 have hv:=Lib.hid (show plainName s.data.toList=(cleanB s.data.toList&&decide (s.size≤64)&&decide (Lib.indexByte s.data.toList 47<0)) by rw[noslash];rfl)
 have hm:meth=false∨(meth=true∧(s.toList==[60,105,110,105,116,62])=false∧(s.toList==[60,99,108,105,110,105,116,62])=false):=by
  rcases h with h | ⟨a,b⟩
  ·exact .inl h
  ·cases meth
   ·exact .inl rfl
   ·exact .inr ⟨rfl,tl_ne a,tl_ne b⟩
 clear h;rcases hm with rfl | ⟨rfl,g1,g2⟩
 all_goals
  cases hc:cleanB s.data.toList
  all_goals
   have HC:=Lib.hid hc;clear hc;by_cases h64:s.size≤64
   all_goals
    go_enter Tryd.func59,Tryd.ntmps59
    go_wp2_with (first
     | (go_at_call 73;refine(Y5l _ _ hs).mono ?_;rintro e w' ⟨rfl,rfl⟩;rw[HC.out])
     | (go_at_call 75;refine(Tryd.strings_IndexByte _ _ _).mono ?_;rintro e w' ⟨rfl,rfl⟩))
    go_ret;refine⟨ret_bool ?_,rfl⟩;rw[hv.out,HC.out];simp [h64]
theorem X7s (s:ByteArray) (meth:Bool) (w:World) (hs:s.size≤140737488355328) :
  Calls Tryd.prog 59 #[.string s,.bool meth] w fun e w'=>e = .returned (.bool (memberB s.data.toList meth))∧w=w':=by
 by_cases h:meth=false∨(¬s.data.toList=initL∧¬s.data.toList=clinitL)
 ·refine(Y2d s meth w hs h).mono ?_
  rintro e w' ⟨rfl,rfl⟩;refine⟨ret_bool ?_,rfl⟩;unfold memberB;rcases h with rfl | ⟨a,b⟩
  ·simp
  ·simp [a,b]
 ·simp only[not_or,Bool.not_eq_false,not_and]at h
  obtain⟨rfl,h⟩:=h;by_cases h1:s.data.toList=initL
  ·obtain rfl:s=⟨#[60,105,110,105,116,62]⟩:=X7d h1
   clear h h1
   go_enter Tryd.func59,Tryd.ntmps59
   go_wp2;go_ret;exact⟨rfl,rfl⟩
  ·have h2:=Classical.not_not.1 (h h1)
   obtain rfl:s=⟨#[60,99,108,105,110,105,116,62]⟩:=X7d h2;clear h h1 h2
   go_enter Tryd.func59,Tryd.ntmps59
   go_wp2;go_ret;exact⟨rfl,rfl⟩
open Go.RowKit
abbrev strV (l:List UInt8):Value := .string ⟨l.toArray⟩
theorem X1c (x:List UInt8):(strV x).oneCell'=true:=rfl
theorem str_info:(Tryd.prog.info? 9).map (fun i=>(i.zero,i.size,i.bytes))=some (some (.string .empty),1,16):=by kernel_rfl
theorem strTy:ETy Tryd.prog 22 9 (.string .empty) 1 16:=⟨Tryd.underlying22,info_parts str_info,rfl,by decide⟩
def MethPost (l:List UInt8) (w:World) (e:Ending) (w':World):Prop:=
 ∃A n c,e = .returned (.tuple #[.slice A n c,.string ⟨(methV l).2.1.toArray⟩,.int .i64 (methV l).2.2])∧(methV l).1.length=n∧RL strV w' w'.heap.size A (methV l).1∧Below w.heap.size w w'
theorem Y7u {l:List UInt8} {w w':World} (h:methB l=none) (hb:Below w.heap.size w w'):MethPost l w (.returned (.tuple #[.slice none 0 0,.string .empty,.int .i64 24])) w':=by
 unfold MethPost;rw[X9u h];exact⟨none,0,0,rfl,rfl,RL.nil,hb⟩
theorem Y5w {l:List UInt8} {w w':World} {ps:List (List UInt8)} {r:ByteArray} {A:Option Addr} {n c:Nat} (h:methB l=some (ps,r.data.toList)) (hn:ps.length=n) (hr:RL strV w' w'.heap.size A ps) (hb:Below w.heap.size w w') :
  MethPost l w (.returned (.tuple #[.slice A n c,.string r,.int .i64 0])) w':=by
 unfold MethPost;rw[Y2o h];exact⟨A,n,c,rfl,hn,hr,hb⟩
theorem X9l {w w':World} {p:Addr} {u:Value} (hb:Below w.heap.size w w') (h:w.cell? p=some u):w'.cell? p=some u:=
 (hb.cell (World.block_lt_of_cell? _ _ h)).trans h
theorem W8k {s:ByteArray} (h:0<s.size):s.data.toList=s[0]::(s.extract 1 s.size).data.toList:=by
 rw[Y3q];exact X2l h
theorem W6b {s:ByteArray} (h:s.data.toList=[86]):resB s.data.toList=true:=by rw[h];rfl
theorem W4p {s:ByteArray} (h:¬s.data.toList=[86]):resB s.data.toList=descB s.data.toList:=by unfold resB;simp [h]
theorem Y0r (s:ByteArray) (m:Int) (w:World) (hs:s.size≤2000000) (hm:w.cell? ⟨0,0,none⟩=some (.int .i64 m)) :
  Calls Tryd.prog 60 #[.string s] w (MethPost s.data.toList w):=by
 by_cases h0:s.data.toList[0]? = some 40
 ·have h00:0<s.size:=(Z24.1 h0).1
  obtain⟨rs0,hrs0⟩:∃rs0:ByteArray,rs0=s.extract 1 s.size:=⟨_,rfl⟩;have hrd:rs0.data.toList=s.data.toList.drop 1:=by rw[hrs0];exact Y3q s 1
  have hrz:rs0.size+1=s.size:=by rw[hrs0,ByteArray.size_extract];omega
  have hsl:s.data.toList=40::rs0.data.toList:=by
   rw[hrd];have h1:=X2l h00;have h2:s[0]=40:=by have:=byteAt h00;rw[h0]at this;injection this with e;exact e.symm
   rw[h2]at h1;simpa using h1
  have hmb:=Lib.hid (show methB s.data.toList=methGo (rs0.size+1) [] 0 rs0.data.toList by rw[hsl,X6z];rfl);have hp1:Lib.hasPrefix s.data.toList [40]=true:=by rw[hsl];rfl
  have hp2:(⟨(Lib.trimPrefix s.data.toList [40]).toArray⟩:ByteArray)=rs0:=by apply X7d;unfold Lib.trimPrefix;rw[hp1];rw[hrd];rfl
  have Nh:=Lib.hid hp1;have Te:=Lib.hid hp2;clear hp1 hp2 hrd hsl h0 hrs0
  go_enter Tryd.func60,Tryd.ntmps60
  go_wp2_with fail
  refine(Tryd.strings_CutPrefix _ _ _).mono ?_
  rintro e w' ⟨rfl,rfl⟩;rw[show Lib.hasPrefix s.data.toList (⟨#[40]⟩:ByteArray).data.toList=true from Nh.out,show (⟨(Lib.trimPrefix s.data.toList (⟨#[40]⟩:ByteArray).data.toList).toArray⟩:ByteArray)=rs0 from Te.out];go_wp2
  go_loopw [5,7,8] (fun r v sl wr=>∃(rs:ByteArray) (ps:List (List UInt8)) (k:Int) (f:Nat),r = .string rs∧rs.size+ps.length≤s.size∧rs.size<f∧sl = .int .i64 k∧0≤k∧k≤2*ps.length ∧
    OwL strV wr w'.heap.size 9 v ps∧Below w'.heap.size w' wr∧Hid (methB s.data.toList=methGo f ps k rs.data.toList)) (fun r _ _ _=>match r with | .string b=>b.size | _=>0)
  case atStart=>exact⟨rs0,[],0,_,rfl,by simp;omega,Z38 _,rfl,by omega,by simp,OwL.nil,Below.refl _ _,hmb⟩
  case round=>
   obtain⟨rs,ps,k,f,rfl,hz,hf,rfl,hk0,hk1,hown,hbel,hgo⟩:=hrel;rcases Nat.eq_zero_or_pos rs.size with h0 | h0
   ·have hl:rs.data.toList=[]:=Z36 h0
    have hem:rs.toList.isEmpty=true:=W8h hl;have hno:=Lib.hid (show methB s.data.toList=none by rw[hgo.out,hl];exact X7l);clear hl h0;go_wp2;go_ret3;exact Y7u hno.out hbel
   ·have hem:rs.toList.isEmpty=false:=X2o (fun e=>by
     have:rs.data.toList.length=0:=by rw[e];rfl
     rw[X8w]at this;omega)
    have hcons:=Lib.hid (W8k h0);by_cases h41:rs[0]=41
    ·have h41':(rs[0].toNat:Int)=41:=by rw[h41];rfl
     have hgo2:=Lib.hid (show methB s.data.toList=methGo f ps k (41::(rs.extract 1 rs.size).data.toList) by rw[hgo.out,hcons.out,h41]);have s3:(1:Int)≤(rs.size:Int):=(by omega);clear h41;by_cases hk:k<64
     ·by_cases hv:(rs.extract 1 rs.size).data.toList=[86]
      ·have hg:=tl_eq hv
       have hfin:=Lib.hid (show methB s.data.toList=some (ps,(rs.extract 1 rs.size).data.toList) by rw[hgo2.out];exact Y7j (by omega) hk (W6b hv));obtain⟨A,c,rfl,hr,hc1,hc2⟩:=hown.rd;clear hv;go_wp2;go_quiet (fail)
       go_wp2;go_ret3;exact Y5w hfin.out rfl (hr.drewN _) (below_drewN hbel _)
      ·have hg:=tl_ne hv
       have hres:=Lib.hid (W4p hv);have hfm:=X9l hbel hm;clear hv;cases hd:descB (rs.extract 1 rs.size).data.toList
       ·have hno:=Lib.hid (show methB s.data.toList=none by rw[hgo2.out];exact Y7g (by rw[hres.out,hd];simp))
        have HD:=Lib.hid hd;clear hd;go_wp2_with (go_at_call 58;refine(Y3u _ m _ (by rw[ByteArray.size_extract];omega) hfm).mono ?_;rintro e w1 ⟨rfl,hb⟩;rw[HD.out])
        go_ret3;exact Y7u hno.out (hbel.trans (hb.mono hbel.size))
       ·have hfin:=Lib.hid (show methB s.data.toList=some (ps,(rs.extract 1 rs.size).data.toList) by rw[hgo2.out];exact Y7j (by omega) hk (by rw[hres.out];exact hd))
        have HD:=Lib.hid hd;clear hd;obtain⟨A,c,rfl,hr,hc1,hc2⟩:=hown.rd;go_wp2_with (go_at_call 58;refine(Y3u _ m _ (by rw[ByteArray.size_extract];omega) hfm).mono ?_;rintro e w1 ⟨rfl,hb⟩;rw[HD.out])
        go_quiet (fail)
        go_wp2;go_ret3;exact Y5w hfin.out rfl ((hr.step hb).drewN _) (below_drewN (hbel.trans (hb.mono hbel.size)) _)
     ·have hno:=Lib.hid (show methB s.data.toList=none by rw[hgo2.out];exact Y7g (fun h=>hk h.1))
      go_wp2;go_ret3;exact Y7u hno.out hbel
    ·have h41':=u8ne (n:=41) h41 (by omega)
     have hle:headN rs.data.toList≤rs.size:=Y0c _;have HP:=Lib.hid (Y1y rs m wr (by omega) (X9l hbel hm));cases hh:headN rs.data.toList with
     | zero=>
      have hno:=Lib.hid (show methB s.data.toList=none by rw[hgo.out,hcons.out];exact X7k h41 (by rw[←hcons.out];exact hh));have HH:=Lib.hid hh;clear hh h41;go_wp2_with (go_at_call 74;refine(HP.out).mono ?_;rintro e w' ⟨h1,_,hb⟩;have h2:=h1 HH.out;clear h1;subst h2)
      go_ret3;exact Y7u hno.out (hbel.trans (hb.mono hbel.size))
     | succ h=>
      rw[hh]at hle;have HH:=Lib.hid hh;have hstep:=Lib.hid (Y1l (f:=f-1) (ps:=ps) (k:=k) hcons.out h41 hh);have hf1:=Lib.hid (show f-1+1=f by omega);have hdt:=Lib.hid (X1f rs (h+1));have hdd:=Lib.hid (Y3q rs (h+1));obtain⟨sr1,sr2⟩:=Y7d (List.take (h+1) rs.data.toList);have hdz:(rs.extract (h+1) rs.size).size=rs.size-(h+1):=by rw[ByteArray.size_extract];omega
      have S4:=Lib.hid hdz;clear hh h41 hdz;go_wp2_with fail
      refine(HP.out).mono ?_
      rintro e w1 ⟨_,h1,hb⟩;have h2:=h1 _ HH.out;clear h1;subst h2;have own1:=hown.below hb;have hb1:=hbel.trans (hb.mono hbel.size);have hz1:=hb1.size;go_wp2_with (at_builtin;refine Y9l _ X1c rfl (.tmp 32) (.tmp 34) rfl strTy (by decide) w'.heap.size _ ps rfl (own1.alloc _) _ _ 1 1 [(rs.extract 0 (h+1)).data.toList] rfl rfl (RL.freshe _ _ ?c0 _) ?c1 ?c2 ?_)
      case c0=>rfl
      case c1=>simp;omega
      case c2=>simp;omega
      intro v2 w2 own2 _ _ hb2;have hb2':=(Y9z hb1 (Z00 _) (.cells #[.string (rs.extract 0 (h+1))] 9)).trans hb2;clear own1 hb1 hb hbel hown hb2;go_wp2_with (go_at_call 65;refine(Y2a _ _).mono ?_;rintro e w3 ⟨rfl,rfl⟩)
      go_roundw
      case rel=>
       refine⟨_,_,_,f-1,rfl,?_,?_,rfl,by omega,?_,own2,hb2',Lib.hid ?_⟩
       ·rw[S4.out];simp;omega
       ·rw[S4.out];omega
       ·simp;omega
       ·rw[hgo.out,hdd.out,←hstep.out,hf1.out]
      case measure=>show (rs.extract (h+1) rs.size).size<rs.size;rw[S4.out];omega
 ·have hmb:=Lib.hid (Y1h h0)
  have hp1:Lib.hasPrefix s.data.toList [40]=false:=by
   unfold Lib.hasPrefix;cases hl:s.data.toList with
   | nil=>rfl
   | cons c r=>
    rw[hl]at h0
    have:¬40=c:=fun e=>h0 (by rw[←e];rfl)
    simp [List.isPrefixOf,this]
  have Nh:=Lib.hid hp1;clear hp1 h0
  go_enter Tryd.func60,Tryd.ntmps60
  go_wp2_with fail
  refine(Tryd.strings_CutPrefix _ _ _).mono ?_
  rintro e w' ⟨rfl,rfl⟩;rw[show Lib.hasPrefix s.data.toList (⟨#[40]⟩:ByteArray).data.toList=false from Nh.out];go_wp2;go_ret3;exact Y7u hmb.out (Below.refl _ _)
open Go.RowKit
def stR {α:Type} (r:Rz (α×Nat)):Rz Nat:=r.bind fun x => .ok x.2
def onR {α:Type} (s:Rz Nat) (A:Py α) (b:List UInt8):Rz (α×Nat):=s.bind (A b)
def failR (s:Rz Nat) (k:Int):Rz Nat:=s.bind fun _ => .err k
def valN (r:Rz (Nat×Nat)):Int:=match r with
 | .ok x=>(x.1:Int)
 | .err _=>0
def valB (r:Rz (List UInt8×Nat)):List UInt8:=match r with
 | .ok x=>x.1
 | .err _=>[]
section
variable {α β:Type} {s:Rz Nat} {b:List UInt8} {p:Nat} {k:Int} {A:Py α}
theorem Y9n:onR (.ok p) A b=A b p:=rfl
theorem Y8j:onR (.err k) A b = .err k:=rfl
theorem Y8g (F:α→Py β):onR s (bindP A F) b=(onR s A b).bind fun x=>F x.1 b x.2:=by
 cases s <;> rfl
theorem Y6b {x:α×Nat}:stR (.ok x) = .ok x.2:=rfl
theorem Y7x:stR (.err k:Rz (α×Nat)) = .err k:=rfl
theorem X2r (n:Nat) (b:List UInt8) (p:Nat):(p+n≤b.length∧rdN n b p = .ok (beN ((b.drop p).take n),p+n))∨(b.length<p+n∧rdN n b p = .err 2):=by
 unfold rdN
 split
 ·rename_i h;exact .inl ⟨h,rfl⟩
 ·rename_i h;exact .inr ⟨by omega,rfl⟩
theorem Y7q (n:Nat) (s:Rz Nat) (b:List UInt8):0≤valN (onR s (rdN n) b)∧valN (onR s (rdN n) b)<((256 ^ n:Nat):Int):=by
 have hp:0<256 ^ n:=Nat.pow_pos (by omega);cases s with
 | err k=>rw[Y8j];show (0:Int)≤0∧(0:Int)<_;omega
 | ok p=>
  rw[Y9n];rcases X2r n b p with⟨h,e⟩ | ⟨_,e⟩
  ·rw[e]
   have h1:beN ((b.drop p).take n)<256 ^ n:=Y5o _ (by simp;omega);show (0:Int)≤((beN ((b.drop p).take n):Nat):Int)∧((beN ((b.drop p).take n):Nat):Int)<_;omega
  ·rw[e];show (0:Int)≤0∧(0:Int)<_;omega
end
open Go.RowKit
section
variable {s:Rz Nat} {b:List UInt8}
theorem X4n:onR s cntI b=(onR s (rdN 2) b).bind fun x=>if 64<x.1 then .err 24 else .ok x:=by
 unfold cntI;rw[Y8g];cases onR s (rdN 2) b with
 | err k=>rfl
 | ok x=>
  show (if 64<x.1 then failP 24 else retP x.1) b x.2=_;by_cases h:64<x.1
  ·rw[if_pos h];show _=(if 64<x.1 then _ else _);rw[if_pos h];rfl
  ·rw[if_neg h];show _=(if 64<x.1 then _ else _);rw[if_neg h];rfl
theorem X6c {r1 r2:Rz (Nat×Nat)} {r3:Rz (List UInt8×Nat)} {n:Nat} (h1:onR s (rdN 2) b=r1) (h2:onR (stR r1) (rdN 4) b=r2) (hn:valN r2=(n:Int)) (h3:onR (stR r2) (rdB n) b=r3) :
  onR s attP b=r3.bind fun z => .ok (⟨valN r1,z.1⟩,z.2):=by
 unfold attP;rw[Y8g,h1];cases r1 with
 | err k=>rw[Y7x,Y8j]at h2;subst h2;rw[Y7x,Y8j]at h3;subst h3;rfl
 | ok x=>
  rw[Y6b,Y9n]at h2;show (bindP (rdN 4) fun sz=>bindP (rdB sz) fun d=>retP (⟨(x.1:Int),d⟩:Att)) b x.2=_;unfold bindP;rw[h2];cases r2 with
  | err k=>rw[Y7x,Y8j]at h3;subst h3;rfl
  | ok y=>
   have hn:y.1=n:=by have:(y.1:Int)=(n:Int):=hn;omega
   rw[Y6b,Y9n]at h3;subst hn;show (rdB y.1 b y.2).bind _=_;rw[h3];cases r3 <;> rfl
theorem X2s {r1 r2 r3:Rz (Nat×Nat)} {r4:Rz (List Att×Nat)} (h1:onR s (rdN 2) b=r1) (h2:onR (stR r1) (rdN 2) b=r2) (h3:onR (stR r2) (rdN 2) b=r3) (h4:onR (stR r3) attsP b=r4) :
  onR s memP b=r4.bind fun z => .ok (⟨valN r1,valN r2,valN r3,z.1⟩,z.2):=by
 unfold memP;rw[Y8g,h1];cases r1 with
 | err k=>rw[Y7x,Y8j]at h2;subst h2;rw[Y7x,Y8j]at h3;subst h3;rw[Y7x,Y8j]at h4;subst h4;rfl
 | ok x=>
  rw[Y6b,Y9n]at h2;show (bindP (rdN 2) fun nm=>bindP (rdN 2) fun ds=>bindP attsP fun at_=>retP (⟨(x.1:Int),nm,ds,at_⟩:Mem)) b x.2=_;unfold bindP;rw[h2];cases r2 with
  | err k=>rw[Y7x,Y8j]at h3;subst h3;rw[Y7x,Y8j]at h4;subst h4;rfl
  | ok y=>
   rw[Y6b,Y9n]at h3;show (rdN 2 b y.2).bind _=_;rw[h3];cases r3 with
   | err k=>rw[Y7x,Y8j]at h4;subst h4;rfl
   | ok z=>rw[Y6b,Y9n]at h4;show (attsP b z.2).bind _=_;rw[h4];cases r4 <;> rfl
def repR {α:Type} (A:Py α) (b:List UInt8) (acc:List α) (s:Rz Nat) (n:Nat):Rz (List α×Nat):=(onR s (repP A n) b).bind fun y => .ok (acc++y.1,y.2)
theorem X4f {α:Type} (A:Py α) (acc:List α) (p:Nat):repR A b acc (.ok p) 0 = .ok (acc,p):=by
 unfold repR;rw[Y9n];show Rz.ok (acc++[],p)=_;rw[Z14]
theorem Y0d {α:Type} (A:Py α) (acc:List α) (k:Int) (n:Nat):repR A b acc (.err k) n = .err k:=rfl
theorem X5i {α:Type} {A:Py α} {acc:List α} {p n:Nat} {x:α×Nat} (h:A b p = .ok x):repR A b acc (.ok p) (n+1)=repR A b (acc++[x.1]) (.ok x.2) n:=by
 unfold repR;rw[Y9n,Y9n];show (bindP A (fun y=>bindP (repP A n) fun r=>retP (y::r)) b p).bind _=_;unfold bindP;rw[h];show ((repP A n b x.2).bind fun y=>retP (x.1::y.1) b y.2).bind _=_;cases repP A n b x.2 with
 | err k=>rfl
 | ok y=>show Rz.ok (acc++(x.1::y.1),y.2)=Rz.ok ((acc++[x.1])++y.1,y.2);rw[List.append_assoc];rfl
theorem X0y {α:Type} {A:Py α} {acc:List α} {p n:Nat} {k:Int} (h:A b p = .err k):repR A b acc (.ok p) (n+1) = .err k:=by
 unfold repR;rw[Y9n];show (bindP A (fun y=>bindP (repP A n) fun r=>retP (y::r)) b p).bind _=_;unfold bindP;rw[h]
 rfl
theorem Y3m {α:Type} {A:Py α} {r:Rz (Nat×Nat)} {n:Nat} (h:onR s cntI b=r) (hn:valN r=(n:Int)):onR s (bindP cntI fun n=>repP A n) b=repR A b [] (stR r) n:=by
 rw[Y8g,h];cases r with
 | err k=>rfl
 | ok x=>
  have hn:x.1=n:=by have:(x.1:Int)=(n:Int):=hn;omega
  subst hn;unfold repR;rw[Y6b,Y9n];show repP A x.1 b x.2=(repP A x.1 b x.2).bind _;cases repP A x.1 b x.2 <;> rfl
end
open Go.RowKit
section
variable {s:Rz Nat} {b:List UInt8} {p:Nat} {k:Int}
def cstK (t:Nat):Py Cst:=
 if t=1 then bindP (rdN 2) fun n=>bindP (rdB n) fun s=>if uOk s=true then retP ⟨1,0,0,0,s⟩ else failP 23
 else if t=3 then bindP (rdN 4) fun v=>retP ⟨3,0,0,sgn32 v,[]⟩
 else if t=5 then bindP (rdN 8) fun v=>retP ⟨5,0,0,wrap64 (v:Int),[]⟩
 else if t=7∨t=8 then bindP (rdN 2) fun a=>retP ⟨t,a,0,0,[]⟩
 else if t=9∨t=10∨t=11∨t=12 then bindP (rdN 2) fun a=>bindP (rdN 2) fun b=>retP ⟨t,a,b,0,[]⟩
 else failP 24
theorem W6o (h:onR s (rdN 1) b = .err k):onR s cstP b = .err k:=by
 unfold cstP;rw[Y8g,h];rfl
theorem X2v {t:Nat} (h:onR s (rdN 1) b = .ok (t,p)):onR s cstP b=cstK t b p:=by
 unfold cstP;rw[Y8g,h];rfl
theorem X9k {r2:Rz (Nat×Nat)} {r3:Rz (List UInt8×Nat)} {n:Nat} (h2:onR (.ok p) (rdN 2) b=r2) (hn:valN r2=(n:Int)) (h3:onR (stR r2) (rdB n) b=r3) :
  cstK 1 b p=r3.bind fun z=>if uOk z.1=true then .ok (⟨1,0,0,0,z.1⟩,z.2) else .err 23:=by
 unfold cstK;rw[if_pos rfl];rw[Y9n]at h2;unfold bindP;rw[h2];cases r2 with
 | err k=>rw[Y7x,Y8j]at h3;subst h3;rfl
 | ok y=>
  have hn:y.1=n:=by have:(y.1:Int)=(n:Int):=hn;omega
  subst hn;rw[Y6b,Y9n]at h3;show (rdB y.1 b y.2).bind _=_;rw[h3];cases r3 with
  | err k=>rfl
  | ok z=>
   show (if uOk z.1=true then retP (⟨1,0,0,0,z.1⟩:Cst) else failP 23) b z.2=(if uOk z.1=true then _ else _);by_cases h:uOk z.1=true
   ·rw[if_pos h,if_pos h];rfl
   ·rw[if_neg h,if_neg h];rfl
theorem W7c {r2:Rz (Nat×Nat)} (h2:onR (.ok p) (rdN 4) b=r2):cstK 3 b p=r2.bind fun y => .ok (⟨3,0,0,sgn32 y.1,[]⟩,y.2):=by
 unfold cstK;rw[if_neg (by decide),if_pos rfl];rw[Y9n]at h2;unfold bindP;rw[h2];cases r2 <;> rfl
theorem X0i {r2:Rz (Nat×Nat)} (h2:onR (.ok p) (rdN 8) b=r2):cstK 5 b p=r2.bind fun y => .ok (⟨5,0,0,wrap64 (y.1:Int),[]⟩,y.2):=by
 unfold cstK;rw[if_neg (by decide),if_neg (by decide),if_pos rfl];rw[Y9n]at h2;unfold bindP;rw[h2];cases r2 <;> rfl
theorem X4y {r2:Rz (Nat×Nat)} {t:Nat} (ht:t=7∨t=8) (h2:onR (.ok p) (rdN 2) b=r2):cstK t b p=r2.bind fun y => .ok (⟨t,y.1,0,0,[]⟩,y.2):=by
 unfold cstK;rw[if_neg (by omega),if_neg (by omega),if_neg (by omega),if_pos ht];rw[Y9n]at h2;unfold bindP;rw[h2];cases r2 <;> rfl
theorem Y3b {r2 r3:Rz (Nat×Nat)} {t:Nat} (ht:t=9∨t=10∨t=11∨t=12) (h2:onR (.ok p) (rdN 2) b=r2) (h3:onR (stR r2) (rdN 2) b=r3) :
  cstK t b p=r3.bind fun z => .ok (⟨t,valN r2,z.1,0,[]⟩,z.2):=by
 unfold cstK;rw[if_neg (by omega),if_neg (by omega),if_neg (by omega),if_neg (by omega),if_pos ht];rw[Y9n]at h2;unfold bindP;rw[h2];cases r2 with
 | err k=>rw[Y7x,Y8j]at h3;subst h3;rfl
 | ok y=>rw[Y6b,Y9n]at h3;show (rdN 2 b y.2).bind _=_;rw[h3];cases r3 <;> rfl
theorem X0p {t:Nat} (h:t≠1∧t≠3∧t≠5∧t≠7∧t≠8∧t≠9∧t≠10∧t≠11∧t≠12):cstK t b p = .err 24:=by
 unfold cstK;rw[if_neg (by omega),if_neg (by omega),if_neg (by omega),if_neg (by omega),if_neg (by omega)];rfl
def poolR (b:List UInt8) (acc:List Cst) (s:Rz Nat) (f k:Nat):Rz (List Cst×Nat):=(onR s (poolP f k) b).bind fun y => .ok (acc++y.1,y.2)
theorem X7w (acc:List Cst) (f:Nat):poolR b acc (.ok p) f 0 = .ok (acc,p):=by
 unfold poolR;rw[Y9n];have e:poolP f 0 b p = .ok ([],p):=by cases f <;> rfl
 rw[e];show Rz.ok (acc++[],p)=_;rw[Z14]
theorem X3i (acc:List Cst) (f n:Nat):poolR b acc (.err k) f n = .err k:=rfl
theorem Y3o (f n:Nat):poolP (f+1) (n+1) b p=(cstP b p).bind fun x=>(if x.1.tag=5 then (if n+1=1 then failP 24 else bindP (poolP f (n+1-2)) fun r=>retP (x.1::cst0::r)) else bindP (poolP f (n+1-1)) fun r=>retP (x.1::r)) b x.2:=by
 rw[poolP,if_neg (by omega)];rfl
theorem Y5h {acc:List Cst} {f n:Nat} (h:cstP b p = .err k):poolR b acc (.ok p) (f+1) (n+1) = .err k:=by
 unfold poolR;rw[Y9n,Y3o,h];rfl
theorem X6s {acc:List Cst} {f n q:Nat} {c:Cst} (h:cstP b p = .ok (c,q)) (h5:c.tag≠5):poolR b acc (.ok p) (f+1) (n+1)=poolR b (acc++[c]) (.ok q) f n:=by
 unfold poolR;rw[Y9n,Y9n,Y3o,h];show ((if c.tag=5 then _ else bindP (poolP f (n+1-1)) fun r=>retP (c::r)) b q).bind _=_;rw[if_neg h5,Nat.add_sub_cancel];unfold bindP;cases poolP f n b q with
 | err k=>rfl
 | ok y=>show Rz.ok (acc++(c::y.1),y.2)=Rz.ok ((acc++[c])++y.1,y.2);rw[List.append_assoc];rfl
theorem X7v {acc:List Cst} {f q:Nat} {c:Cst} (h:cstP b p = .ok (c,q)) (h5:c.tag=5):poolR b acc (.ok p) (f+1) 1 = .err 24:=by
 unfold poolR;rw[Y9n,Y3o (n:=0),h];show ((if c.tag=5 then (if 0+1=1 then failP 24 else _) else _) b q).bind _=_;rw[if_pos h5,if_pos rfl];rfl
theorem X8b {acc:List Cst} {f n q:Nat} {c:Cst} (h:cstP b p = .ok (c,q)) (h5:c.tag=5):poolR b acc (.ok p) (f+1) (n+2)=poolR b (acc++[c,cst0]) (.ok q) f n:=by
 unfold poolR;rw[Y9n,Y9n,Y3o (n:=n+1),h];show ((if c.tag=5 then (if n+1+1=1 then _ else bindP (poolP f (n+1+1-2)) fun r=>retP (c::cst0::r)) else _) b q).bind _=_;rw[if_pos h5,if_neg (by omega),show n+1+1-2=n by omega];unfold bindP;cases poolP f n b q with
 | err k=>rfl
 | ok y=>show Rz.ok (acc++(c::cst0::y.1),y.2)=Rz.ok ((acc++[c,cst0])++y.1,y.2);rw[List.append_assoc];rfl
end
open Go.RowKit
def valL {α:Type} (r:Rz (List α×Nat)):List α:=match r with
 | .ok x=>x.1
 | .err _=>[]
def im7 (mi ma n:Nat):Py Img:=bindP (poolP n (n-1)) fun pl=>bindP (rdN 2) fun ac=>bindP (rdN 2) fun th=>bindP (rdN 2) fun su=>bindP ifP fun ifs=>
 bindP memsP fun fs=>bindP memsP fun ms=>bindP attsP fun at_=>retP ⟨mi,ma,cst0::pl,ac,th,su,ifs,fs,ms,at_⟩
def im5 (mi ma:Nat):Py Img:=bindP (rdN 2) fun n=>if n<1∨1024<n then failP 24 else im7 mi ma n
def im2:Py Img:=bindP (rdN 2) fun mi=>bindP (rdN 2) fun ma=>if ma<45∨52<ma then failP 24 else im5 mi ma
theorem W7u:imgP=bindP (rdN 4) fun g=>if g≠3405691582 then failP 24 else im2:=rfl
section
variable {b:List UInt8}
theorem X5c {mi ma n:Nat} {s:Rz Nat} {R7:Rz (List Cst×Nat)} {r8 r9 r10:Rz (Nat×Nat)} {r11:Rz (List Int×Nat)} {r12 r13:Rz (List Mem×Nat)} {r14:Rz (List Att×Nat)}
  (h7:poolR b [cst0] s n (n-1)=R7) (h8:onR (stR R7) (rdN 2) b=r8) (h9:onR (stR r8) (rdN 2) b=r9) (h10:onR (stR r9) (rdN 2) b=r10) (h11:onR (stR r10) ifP b=r11) (h12:onR (stR r11) memsP b=r12)
  (h13:onR (stR r12) memsP b=r13) (h14:onR (stR r13) attsP b=r14) :
  onR s (im7 mi ma n) b=r14.bind fun z => .ok (⟨mi,ma,valL R7,valN r8,valN r9,valN r10,valL r11,valL r12,valL r13,z.1⟩,z.2):=by
 unfold im7;rw[Y8g];unfold poolR at h7;cases hp:onR s (poolP n (n-1)) b with
 | err k=>rw[hp]at h7;subst h7;subst h8;subst h9;subst h10;subst h11;subst h12;subst h13;subst h14;rfl
 | ok x=>
  rw[hp]at h7;subst h7;have h8:rdN 2 b x.2=r8:=h8;show (bindP (rdN 2) fun ac=>bindP (rdN 2) fun th=>bindP (rdN 2) fun su=>bindP ifP fun ifs=>bindP memsP fun fs=>bindP memsP fun ms=>bindP attsP fun at_=>retP (⟨mi,ma,cst0::x.1,ac,th,su,ifs,fs,ms,at_⟩:Img)) b x.2=_;unfold bindP;rw[h8];cases r8 with
  | err k=>subst h9;subst h10;subst h11;subst h12;subst h13;subst h14;rfl
  | ok y0=>
   have h9:rdN 2 b y0.2=r9:=h9;show (rdN 2 b y0.2).bind _=_;rw[h9];cases r9 with
   | err k=>subst h10;subst h11;subst h12;subst h13;subst h14;rfl
   | ok y1=>
    have h10:rdN 2 b y1.2=r10:=h10;show (rdN 2 b y1.2).bind _=_;rw[h10];cases r10 with
    | err k=>subst h11;subst h12;subst h13;subst h14;rfl
    | ok y2=>
     have h11:ifP b y2.2=r11:=h11;show (ifP b y2.2).bind _=_;rw[h11];cases r11 with
     | err k=>subst h12;subst h13;subst h14;rfl
     | ok y3=>
      have h12:memsP b y3.2=r12:=h12;show (memsP b y3.2).bind _=_;rw[h12];cases r12 with
      | err k=>subst h13;subst h14;rfl
      | ok y4=>
       have h13:memsP b y4.2=r13:=h13;show (memsP b y4.2).bind _=_;rw[h13];cases r13 with
       | err k=>subst h14;rfl
       | ok y5=>have h14:attsP b y5.2=r14:=h14;show (attsP b y5.2).bind _=_;rw[h14];cases r14 <;> rfl
theorem X5l {mi ma n:Nat} {s s6:Rz Nat} {r5:Rz (Nat×Nat)} (h5:onR s (rdN 2) b=r5) (hn:valN r5=(n:Int)) (h6:(if (n:Int)<1∨1024<(n:Int) then failR (stR r5) 24 else stR r5)=s6) :
  onR s (im5 mi ma) b=onR s6 (im7 mi ma n) b:=by
 unfold im5;rw[Y8g,h5];cases r5 with
 | err k=>have hn:(0:Int)=(n:Int):=hn;rw[if_pos (by omega)]at h6;subst h6;rfl
 | ok x=>
  have hn:x.1=n:=by have:(x.1:Int)=(n:Int):=hn;omega
  subst hn;show (if x.1<1∨1024<x.1 then failP 24 else im7 mi ma x.1) b x.2=_;by_cases h:x.1<1∨1024<x.1
  ·rw[if_pos (by omega)]at h6;subst h6;rw[if_pos h];rfl
  ·rw[if_neg (by omega)]at h6;subst h6;rw[if_neg h];rfl
theorem X4a {s s4:Rz Nat} {r2 r3:Rz (Nat×Nat)} (h2:onR s (rdN 2) b=r2) (h3:onR (stR r2) (rdN 2) b=r3) (h4:(if valN r3<45∨52<valN r3 then failR (stR r3) 24 else stR r3)=s4) :
  onR s im2 b=onR s4 (im5 (valN r2).toNat (valN r3).toNat) b:=by
 unfold im2;rw[Y8g,h2];cases r2 with
 | err k=>subst h3;rw[if_pos (.inl (by show (0:Int)<45;decide))]at h4;subst h4;rfl
 | ok x=>
  have h3:rdN 2 b x.2=r3:=h3;show (bindP (rdN 2) fun ma=>if ma<45∨52<ma then failP 24 else im5 x.1 ma) b x.2=_;unfold bindP;rw[h3];cases r3 with
  | err k=>rw[if_pos (.inl (by show (0:Int)<45;decide))]at h4;subst h4;rfl
  | ok y=>
   have hv:valN (.ok y)=(y.1:Int):=rfl;have hx:valN (.ok x)=(x.1:Int):=rfl;rw[hv]at h4 ⊢;rw[hx,Z30,Z30];show (if y.1<45∨52<y.1 then failP 24 else im5 x.1 y.1) b y.2=_;by_cases h:y.1<45∨52<y.1
   ·rw[if_pos (by omega)]at h4;subst h4;rw[if_pos h];rfl
   ·rw[if_neg (by omega)]at h4;subst h4;rw[if_neg h];rfl
theorem X2t {s1:Rz Nat} {r0:Rz (Nat×Nat)} (h0:onR (.ok 0) (rdN 4) b=r0) (h1:(if valN r0≠3405691582 then failR (stR r0) 24 else stR r0)=s1):imgP b 0=onR s1 im2 b:=by
 have e:imgP b 0=onR (.ok 0) imgP b:=rfl;rw[e,W7u,Y8g,h0];cases r0 with
 | err k=>rw[if_pos (by show (0:Int)≠_;decide)]at h1;subst h1;rfl
 | ok x=>
  have hv:valN (.ok x)=(x.1:Int):=rfl;rw[hv]at h1;show (if x.1≠3405691582 then failP 24 else im2) b x.2=_;by_cases h:x.1≠3405691582
  ·rw[if_pos (by omega)]at h1;subst h1;rw[if_pos h];rfl
  ·rw[if_neg (by omega)]at h1;subst h1;rw[if_neg h];rfl
end
open Go.RowKit
def RAX (w:World) (X:Nat→Prop) (A:Option Addr) (L:List AtE):Prop:=Rx w X A (L.flatMap attC)∧∀x∈L,SlX w X x.s
def MmX (w:World) (X:Nat→Prop) (x:MmE):Prop:=x.L.length=x.n∧x.n≤x.c∧(x.c:Int)≤9223372036854775807∧RAX w X x.A x.L
def Bel (B:Nat) (w:World) (v:Value) (k:Nat):Prop:=B≤k∧k<w.heap.size∧v.ownBlock≠some k
def SubsA (B:Nat) (w:World) (v:Value) (L:List AtE):Prop:=∀x∈L,SlX w (Bel B w v) x.s
def SubsM (B:Nat) (w:World) (v:Value) (L:List MmE):Prop:=∀x∈L,MmX w (Bel B w v) x
section
variable {w w':World} {X Y:Nat→Prop} {A:Option Addr} {L N:List AtE} {M K:List MmE} {x:MmE} {v v':Value} {B:Nat} {e:TypeId}
theorem RAX.step (h:RAX w X A L) (hs:∀k,X k→w'.heap[k]? = w.heap[k]?) (hY:∀k,X k→Y k):RAX w' Y A L:=⟨h.1.step hs hY,fun x hx=>(h.2 x hx).step hs hY⟩
theorem MmX.step (h:MmX w X x) (hs:∀k,X k→w'.heap[k]? = w.heap[k]?) (hY:∀k,X k→Y k):MmX w' Y x:=⟨h.1,h.2.1,h.2.2.1,h.2.2.2.step hs hY⟩
theorem RAX.ra (h:RAX w X A L) (hX:∀k,X k→k<B):RA w B A L:=⟨fun hn=>by
 obtain⟨ad,e,hx,hc⟩:=h.1 hn;exact⟨ad,e,hX _ hx,hc⟩,fun x hx=>(h.2 x hx).slB hX⟩
theorem MmX.mmB (h:MmX w X x) (hX:∀k,X k→k<B):MmB w B x:=⟨h.1,h.2.1,h.2.2.1,h.2.2.2.ra hX⟩
theorem X5q (hg:w.grownBy w' v.ownBlock):∀k,Bel B w v k→w'.heap[k]? = w.heap[k]? := fun k hk=>hg.block k hk.2.1 (fun e=>hk.2.2 e.symm)
theorem X9p (hg:w.grownBy w' v.ownBlock) (hv:v'.ownBlock=v.ownBlock∨v'.ownBlock=some w.heap.size):∀k,Bel B w v k→Bel B w' v' k:=fun k hk=>⟨hk.1,Z07 hk.2.1 hg.size,by
 rcases hv with e | e
 ·rw[e];exact hk.2.2
 ·rw[e];intro e2;injection e2 with e2;have:=hk.2.1;omega⟩
theorem X9g {S:Nat→Prop} (c:Ch w w' S) (hS:∀k,S k→k<B):(∀k,Bel B w v k→w'.heap[k]? = w.heap[k]?)∧∀k,Bel B w v k→Bel B w' v k:=
 ⟨fun k hk=>c.same k hk.2.1 (fun h=>Nat.lt_irrefl _ (Z07 (hS k h) hk.1)),fun _ hk=>⟨hk.1,Z07 hk.2.1 c.size,hk.2.2⟩⟩
theorem SubsA.nil:SubsA B w v []:=fun _ h=>by cases h
theorem SubsM.nil:SubsM B w v []:=fun _ h=>by cases h
theorem SubsA.ch {S:Nat→Prop} (h:SubsA B w v L) (c:Ch w w' S) (hS:∀k,S k→k<B):SubsA B w' v L:=fun x hx=>(h x hx).step (X9g c hS).1 (X9g c hS).2
theorem SubsM.ch {S:Nat→Prop} (h:SubsM B w v M) (c:Ch w w' S) (hS:∀k,S k→k<B):SubsM B w' v M:=fun x hx=>(h x hx).step (X9g c hS).1 (X9g c hS).2
theorem SubsA.app (h:SubsA B w v L) (hn:SubsA B w v N) (hg:w.grownBy w' v.ownBlock) (hv:v'.ownBlock=v.ownBlock∨v'.ownBlock=some w.heap.size):SubsA B w' v' (L++N):=fun x hx=>by
 have h0:SlX w (Bel B w v) x.s:=by
  rcases Z41.1 hx with e | e
  ·exact h x e
  ·exact hn x e
 exact h0.step (X5q hg) (X9p hg hv)
theorem SubsM.app (h:SubsM B w v M) (hn:SubsM B w v K) (hg:w.grownBy w' v.ownBlock) (hv:v'.ownBlock=v.ownBlock∨v'.ownBlock=some w.heap.size):SubsM B w' v' (M++K):=fun x hx=>by
 have h0:MmX w (Bel B w v) x:=by
  rcases Z41.1 hx with e | e
  ·exact h x e
  ·exact hn x e
 exact h0.step (X5q hg) (X9p hg hv)
theorem SubsA.one {x:AtE} (h:SlX w (Bel B w v) x.s):SubsA B w v [x]:=fun y hy=>by
 rcases Z23.1 hy with e | e
 ·rw[e];exact h
 ·cases e
theorem SubsM.one (h:MmX w (Bel B w v) x):SubsM B w v [x]:=fun y hy=>by
 rcases Z23.1 hy with e | e
 ·rw[e];exact h
 ·cases e
theorem SlX.fresh {y:Sl} (h:SlB w w.heap.size y) {S:Nat} (hS:B≤S) (hA:∀q,y.A=some q→S≤q.block) (hv:∀k,v.ownBlock=some k→k<S):SlX w (Bel B w v) y:=⟨h.1,h.2.1,h.2.2.1,fun hn=>by
 obtain⟨ad,e,hx,hc⟩:=h.2.2.2 hn;exact⟨ad,e,⟨Z08 hS (hA _ e),hx,fun e2=>by have:=hv _ e2;have:=hA _ e;omega⟩,hc⟩⟩
theorem MmX.fresh {S:Nat} {V:Value} (ho:OwS attC 2 w S e V L) (hs:SubsA S w V L) {n c:Nat} (hV:V = .slice A n c) (hS:B≤S) (hv:∀k,v.ownBlock=some k→k<S) {a b d:Int}:MmX w (Bel B w v) ⟨a,b,d,A,n,c,L⟩:=by
 subst hV;have hn:L.length=n:=by have:=OwS.len ho;omega
 refine⟨hn,?_,?_,fun hne=>?_,fun x hx=>(hs x hx).step (fun _ _=>rfl) (fun k hk=>⟨Z08 hS hk.1,hk.2.1,fun e=>by have:=hv k e;have:=hk.1;omega⟩)⟩
 ·rcases ho.2 with⟨e,h0⟩ | ⟨g,cap,cur,e,_,_,hc,hm,_⟩
  ·injection e with _ e1 e2;show n≤c;omega
  ·injection e with _ e1 e2;show n≤c;omega
 ·rcases ho.2 with⟨e,h0⟩ | ⟨g,cap,cur,e,_,_,hc,hm,_⟩
  ·injection e with _ e1 e2;show (c:Int)≤_;omega
  ·injection e with _ e1 e2;show (c:Int)≤_;unfold maxLen at hm;omega
 ·obtain⟨A',c',e,hr,_⟩:=OwS.rd ho
  injection e with e1 _ _
  subst e1;obtain⟨ad,e2,hx,hc⟩:=hr hne;subst e2;rcases ho.2 with⟨e,h0⟩ | ⟨g,cap,cur,e,hb,_⟩
  ·injection e with e _ _;cases e
  ·injection e with e _ _
   injection e with e
   subst e;exact⟨_,rfl,⟨Z08 hS hb,hx,fun e=>by have:=hv g e;omega⟩,hc⟩
end
open Go.RowKit
section
variable {s:Rz Nat} {b:List UInt8}
theorem X6q:0≤valN (onR s cntI b)∧valN (onR s cntI b)≤64:=by
 rw[X4n];cases onR s (rdN 2) b with
 | err k=>show (0:Int)≤0∧(0:Int)≤64;omega
 | ok x=>
  show 0≤valN (if 64<x.1 then Rz.err 24 else Rz.ok x)∧valN (if 64<x.1 then Rz.err 24 else Rz.ok x)≤64;by_cases h:64<x.1
  ·rw[if_pos h];show (0:Int)≤0∧(0:Int)≤64;omega
  ·rw[if_neg h];show (0:Int)≤(x.1:Int)∧(x.1:Int)≤64;omega
theorem Y5p {α:Type} {A:Py α} {acc:List α} {p m:Nat} {R:Rz (List α×Nat)} {r:Rz (α×Nat)} {y:α} (hR:repR A b acc (.ok p) (m+1)=R) (h:onR (.ok p) A b=r) (hy:∀x,r = .ok x→y=x.1):repR A b (acc++[y]) (stR r) m=R:=by
 rw[Y9n]at h;cases r with
 | err k=>rw[←hR,X0y h];rfl
 | ok x=>rw[←hR,X5i h,hy x rfl];rfl
theorem X5v {acc:List Att} {p m n:Nat} {R:Rz (List Att×Nat)} {r1 r2:Rz (Nat×Nat)} {r3:Rz (List UInt8×Nat)} (hR:repR attP b acc (.ok p) (m+1)=R) (h1:onR (.ok p) (rdN 2) b=r1) (h2:onR (stR r1) (rdN 4) b=r2) (hn:valN r2=(n:Int)) (h3:onR (stR r2) (rdB n) b=r3) :
  repR attP b (acc++[⟨valN r1,valB r3⟩]) (stR r3) m=R:=by
 have h:=X6c h1 h2 hn h3
 have e:=Y5p (y:=(⟨valN r1,valB r3⟩:Att)) hR h (fun x hx=>by
  cases r3 with
  | err k=>cases hx
  | ok z=>
   have hx:Rz.ok ((⟨valN r1,z.1⟩:Att),z.2)=Rz.ok x:=hx;injection hx with hx;rw[←hx];rfl)
 have e2:stR (r3.bind fun z => .ok ((⟨valN r1,z.1⟩:Att),z.2))=stR r3:=by cases r3 <;> rfl
 rw[e2]at e;exact e
theorem X6i {acc:List Mem} {p m:Nat} {R:Rz (List Mem×Nat)} {r1 r2 r3:Rz (Nat×Nat)} {r4:Rz (List Att×Nat)} {l:List Att} (hR:repR memP b acc (.ok p) (m+1)=R) (h1:onR (.ok p) (rdN 2) b=r1) (h2:onR (stR r1) (rdN 2) b=r2) (h3:onR (stR r2) (rdN 2) b=r3) (h4:onR (stR r3) attsP b=r4)
  (hl:∀x,r4 = .ok x→l=x.1):repR memP b (acc++[⟨valN r1,valN r2,valN r3,l⟩]) (stR r4) m=R:=by
 have h:=X2s h1 h2 h3 h4
 have e:=Y5p (y:=(⟨valN r1,valN r2,valN r3,l⟩:Mem)) hR h (fun x hx=>by
  cases r4 with
  | err k=>cases hx
  | ok z=>
   have hx:Rz.ok ((⟨valN r1,valN r2,valN r3,z.1⟩:Mem),z.2)=Rz.ok x:=hx;injection hx with hx;rw[←hx,hl z rfl])
 have e2:stR (r4.bind fun z => .ok ((⟨valN r1,valN r2,valN r3,z.1⟩:Mem),z.2))=stR r4:=by cases r4 <;> rfl
 rw[e2]at e;exact e
theorem Y1j {α:Type} {A:Py α} {acc:List α} {R:Rz (List α×Nat)} {n:Nat} (hR:repR A b acc s n=R) (h:n=0∨∃k,s = .err k):stR R=s∧∀x,R = .ok x→acc=x.1:=by
 cases s with
 | err k=>rw[Y0d]at hR;subst hR;exact⟨rfl,fun x hx=>by cases hx⟩
 | ok p=>
  rcases h with rfl | ⟨k,hk⟩
  ·rw[X4f]at hR;subst hR;exact⟨rfl,fun x hx=>by injection hx with hx;rw[←hx]⟩
  ·cases hk
end
open Go.RowKit
theorem Y1u {P:Program} {w:World} {B:Nat} {A:Option Addr} {l:List UInt8} {n c:Nat} {src dst e:TypeId} (hs:P.underlying src=some (.slice e)) (he:P.underlying e=some (.int .u8)) (hd:P.underlying dst=some .string)
  (hn:l.length=n) (hr:RB w B A l):(convert src dst (.slice A n c)).run P w = .ok (.string ⟨l.toArray⟩) w:=by
 subst hn;rcases A with _ | ad
 ·have hl:l=[]:=by
   rcases Decidable.em (l.map bV=[]) with h | h
   ·simpa using h
   ·obtain⟨_,h',_⟩:=hr h;cases h'
  subst hl;exact Lib.run_convert_nil_bytes w src dst e c hs he hd
 ·refine run_convert_bytes_back w src dst e ad c l hs he hd fun j hj=>?_
  obtain⟨ad',h',_,hc⟩:=hr (fun h=>by simp at h;subst h;simp at hj);injection h' with h'
  subst h';exact hc j _ (by simp [hj];rfl)
open Go.RowKit
def imZ:Array Value:=#[.int .i64 0,.int .i64 0,.slice none 0 0,.int .i64 0,.int .i64 0,.int .i64 0,.slice none 0 0,.slice none 0 0,.slice none 0 0,.slice none 0 0]
open Go.RowKit
section
variable {P:Program} {k:TypeId} {w w':World} {b n st:Nat} {F:Lit→Option Value} {kl:Lit}
theorem MapF.same (h:MapF w P k b n F) (hb:w'.heap[b]? = w.heap[b]?):MapF w' P k b n F:=by
 obtain⟨D,⟨es,clock,he,r⟩,q⟩:=h;exact⟨D,⟨es,clock,hb.trans he,r⟩,q⟩
end
open Go.RowKit
theorem u8_infoP:(Tryd.prog.info? 5).map (fun i=>(i.zero,i.size,i.bytes))=some (some (.int .u8 0),1,1):=by kernel_rfl
theorem byteTyP:ETy Tryd.prog 28 5 (.int .u8 0) 1 1:=⟨Tryd.underlying28,info_parts u8_infoP,rfl,by decide⟩
open Go.RowKit
structure RwS where
 g:Nat
 v:Value
 l:List UInt8
structure One (T E:TypeId) (w:World) (B:Nat) (x:RwS):Prop where
 r:Rws T E w B x.g x.v x.l
 lo:B≤x.g
 ne:x.v.ownBlock≠some x.g
section
variable {T E:TypeId} {w w' w0:World} {B:Nat} {x y z:RwS} {r:List RwS} {S:Nat→Prop}
end
end Go.Proofs.YtpmfiegfbmamiaaDoor
