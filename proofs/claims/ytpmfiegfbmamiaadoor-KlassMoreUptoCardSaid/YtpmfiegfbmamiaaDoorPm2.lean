/- Parts: Arguments opened to what the walks are told of them; what the bound on the bulk gives. Arguments of more kinds opened: rows of one-cell elements, of 16-bit numbers, of texts. What a row that lists variables wants of its witness. Plain facts on numbers as bytes: nothing of the program. Plain facts on the bytes of a number. Plain facts on bits of bytes, the lowest first. Plain facts on canonical prefix codes. Plain facts on unpacking: what squeezed bytes are unpacked to. Plain facts on the units of modified UTF-8. Plain facts: bytes as units. Plain: class files as they stand: what is read, what is written, and that each is the other's way back. Plain facts on names, descriptors and texts of class files: nothing of the program. Plain facts on descriptors: with how many bytes a descriptor begins. Plain facts on methods' descriptors. Plain: what a class file means. Plain: the image that is made of a class. Plain: bytes that stand at a place. Plain: a reader and a writer that are each other's way back; class files. Plain: class files: what is read and written, whole. Plain: class files: the laws of reading and writing. Plain: what fixed15's classes make. Rows of elements of several cells each: read, owned, appended, a field stored. Nothing here speaks of the program. A row of bytes as it lies. Class files in memory: rows of rows. Nothing here speaks of the program. Three rows of the call's own, each in a block of its own. Nothing here speaks of the program. Structs of the call's own that hold one growing row of bytes: what turns when one of them grows. Nothing here speaks of the program. A growing row of the call's own that is handed on: what turns. Nothing here speaks of the program. What lies beside a growing row: rows of bytes that its elements point to. Nothing here speaks of the program. Classes in memory: rows of whatever elements, rows within rows. Nothing here speaks of the program. A map of the call's own, whatever its elements are: what it holds at a key, told by a function. Nothing here speaks of the program. A map of the call's own: the run equation of a look. Nothing here speaks of the program. Plain: what holds of constants, in the program's order. Bytes as elements. -/
import Derived.Test.YtpmfiegfbmamiaaDoorRows
import Derived.Test.YtpmfiegfbmamiaaDoorPm1
import Derived.ProofKit
import Derived.OpenShut
import Derived.ShutString
import Derived.ChangeOld
import Derived.Below
import Derived.SizedLaws
import Derived.Deep.CondSized
import Derived.JoinedCond
import Derived.Deep.Slices
import Derived.Deep.Fields
import Derived.Laws.BitsAllLaws
import Derived.Laws.BitsLemmas
import Derived.Lib.Split
import Derived.Lib.SplitLaws
import Derived.Lib.IndexBytes
import Derived.Lib.IndexLaws
import Derived.Lib.CountLaws
import Derived.Deep.RegionLaw
import Derived.StillTailTactics
import Derived.WalkKit
import Derived.Maps.OwnSet
import Derived.Maps.Views
import Derived.Deep.LoopGhost
import Derived.Deep.QuietTactic
import Derived.Test.YtpmfiegfbmamiaaDoorProg
namespace Go.Proofs.YtpmfiegfbmamiaaDoor
open Go.ChangeShapes Go.WideShapes Go.ChangeAt Go.RowKit
open Go.ChangeMaps (open_string shut_string)
open Go.Deep (open_slice choose_lt hone_of oneCellFields)
theorem own:ownKnob Tryd.prog.godebug=none:=by kernel_rfl
theorem laidOut:laidOutB Tryd.prog=true:=by kernel_rfl
section
variable {H:Type} {enc:TypeId×Value→H} {P:Program} {w:World} {base:Nat} {spare:Nat→Bool} {held:Bool} {r:Reach} {b0:Nat}
def DLen (d:DataW H) (n:Nat):Prop:=(d = .nil∧n=0)∨∃es sp,d = .slice es sp∧es.length=n
theorem X7x {t e:TypeId} {v:Value} {d:DataW H} {ps:List MemPlace} (ht:P.underlying t=some (.slice e)) (he:P.underlying e=some (.int .u8)) (hc:P.cellsOf e=1)
  (hv:Value.okWide P w r b0 t v) (h:DataW.Trod enc P w base spare held t v d ps) :
  ∃(A:Option Addr) (n c:Nat) (l:List UInt8),v = .slice A n c∧l.length=n∧n≤c∧(c:Int)≤9223372036854775807∧RB w w.heap.size A l∧DLen d n:=by
 obtain⟨A,n,c,rfl⟩:=okWide_slice ht hv;obtain⟨fuel,hf⟩:=h;rcases open_ints ht he hc hf with⟨hcs,hx⟩ | ⟨x,l,c',zs,hcs,_,hl,hm,hz,hx,hcell,hwz⟩
 ·simp [Value.cells]at hcs
  obtain⟨rfl,rfl,rfl⟩:=hcs;simp only[Prod.mk.injEq]at hx;exact⟨none,0,0,[],rfl,rfl,Z00 _,by omega,Rd.nil,.inl ⟨hx.1,rfl⟩⟩
 ·simp [Value.cells]at hcs
  obtain⟨rfl,rfl,rfl⟩:=hcs;simp only[Prod.mk.injEq]at hx;have hzl:n≤zs.length:=by rw[hz];split <;> omega
  have hlen:(zs.take n).length=n:=by simp;omega
  refine⟨some x,n,c,(zs.take n).map fun q=>UInt8.ofNat q.toNat,rfl,by simp;omega,hl,by unfold maxLen at hm;omega,fun hne=>?_,.inr ⟨_,_,hx.1,by simp [lits];omega⟩⟩
  have key:∀i u,(((zs.take n).map fun q=>UInt8.ofNat q.toNat).map bV)[i]? = some u→w.cell? (x.add i)=some u:=by
   intro i u hu
   have hi:i<n:=by
    have:=(Z24.1 hu).1
    simp at this;omega
   have hiz:i<zs.length:=(by omega);rw[hcell i hiz];have hw:=hwz zs[i] (List.getElem_mem hiz);have hb:=bounds_u8 hw;rw[←hu];simp only[List.getElem?_map,List.getElem?_take_of_lt hi,Z33 hiz,Option.map_some,List.getD,Option.getD_some,bV,UInt8.toNat_ofNat']
   congr 2
   omega
  refine⟨x,rfl,?_,key⟩;obtain⟨u,us,hq⟩:=List.exists_cons_of_ne_nil hne
  have:=World.block_lt_of_cell? _ _ (key 0 u (by rw[hq];rfl))
  rwa [blk_add]at this
theorem Y9e {e:TypeId} {fs:Array Field} {n:Nat} {cs:List Value} {y:DataW H×List MemPlace} (he:P.underlying e=some (.struct fs)) (hone:oneCellFields P fs=true) (hC:P.cellsOf e=fs.size)
  (h:DataW.trod enc P w base spare held n e cs=some y) :
  ∃(ys:List (DataW H×List MemPlace)) (n':Nat),y.1 = .agg (ys.map (·.1))∧ys.length=fs.size∧cs.length=fs.size ∧
   ∀(j:Nat) (f:Field),fs[j]? = some f→∃(v:Value) (z:DataW H×List MemPlace),cs[j]? = some v∧ys[j]? = some z∧DataW.trod enc P w base spare held n' f.type [v]=some z:=by
 obtain⟨ys,n',_,hy,hlen,hyl,hf⟩:=DataW.trod_struct he h;refine⟨ys,n',by rw[hy],hyl,hlen.trans hC,fun j f hj=>?_⟩;obtain⟨ho,hk⟩:=hone_of hone j f hj;have hjl:j<fs.size:=(Array.getElem?_eq_some_iff.1 hj).1;have hcl:j<cs.length:=by rw[hlen,hC];exact hjl
 have h1:=hf j f hj;rw[ho,hk,Z42 hcl]at h1;have hys:ys[j]? = some (ys[j]'(by omega)):=Z33 (by omega);exact⟨cs[j],_,Z33 hcl,hys,h1.trans hys⟩
end
section
variable {H:Type}
theorem X1u (d:DataW H):1≤Rows.uptoBulk d:=by
 cases d with
 | lit l=>cases l <;> simp [Rows.uptoBulk]
 | nil=>simp [Rows.uptoBulk]
 | ptr d=>simp [Rows.uptoBulk]
 | slice elems spare=>simp [Rows.uptoBulk]
 | agg parts=>simp [Rows.uptoBulk]
 | iface t d=>simp [Rows.uptoBulk]
 | map entries=>simp [Rows.uptoBulk]
 | held h=>simp [Rows.uptoBulk]
theorem X9r (l:List (DataW H)):l.length≤Rows.uptoBulkAll l:=by
 induction l with
 | nil=>simp [Rows.uptoBulkAll]
 | cons x r ih=>have:=X1u x;simp only[Rows.uptoBulkAll,Z11];omega
theorem Y3z {d:DataW H} {n:Nat} (h:DLen d n):n≤Rows.uptoBulk d:=by
 rcases h with⟨rfl,rfl⟩ | ⟨es,sp,rfl,rfl⟩
 ·omega
 ·have:=X9r es;simp only[Rows.uptoBulk];omega
end
open Go.ChangeShapes Go.WideShapes Go.ChangeAt Go.RowKit
section
variable {H:Type} {enc:TypeId×Value→H} {P:Program} {w:World} {base:Nat} {spare:Nat→Bool} {held:Bool} {r:Reach} {b0:Nat}
end
section
variable {H:Type} {P:Program} {ts:List TypeId} {ds:List (DataW H)}
end
def flat1 (d:DataW Unit):List Value:=match d with
 | .lit (.int k n)=>[.int k n]
 | .lit (.string b)=>[.string ⟨b.toArray⟩]
 | _=>[]
def flat2 (d:DataW Unit):List Value:=match d with
 | .agg ps=>ps.flatMap fun p=>match p with
  | .agg qs=>qs.flatMap flat1
  | p=>flat1 p
 | d=>flat1 d
def layAt (h:Array Obj) (g:Nat) (cs:List Value):Array Obj:=h.modify g fun o=>match o with
 | .cells _ t fr => .cells cs.toArray t fr
 | o=>o
open Go.RowKit
def leN:List UInt8→Nat
 | []=>0
 | x::r=>x.toNat+256*leN r
def beN (l:List UInt8):Nat:=l.foldl (fun v x=>v*256+x.toNat) 0
theorem u8lt (x:UInt8):x.toNat<256:=x.toNat_lt
theorem W9n (l:List UInt8):leN l<256 ^ l.length:=by
 induction l with
 | nil=>simp [leN]
 | cons x r ih=>
  have:=u8lt x
  simp only[leN,Z11,Nat.pow_succ];omega
theorem X1r {a b:Nat} (h:a≤b):256 ^ a≤256 ^ b:=Nat.pow_le_pow_right (by omega) h
theorem X0g (l:List UInt8):∀v:Nat,l.foldl (fun v x=>v*256+x.toNat) v=v*256 ^ l.length+leN l.reverse∧True:=by
 suffices h:∀(l:List UInt8) (v:Nat),l.foldl (fun v x=>v*256+x.toNat) v=v*256 ^ l.length+beN l by
  have hs:∀l:List UInt8,beN l=leN l.reverse:=by
   intro l
   have key:∀r:List UInt8,beN r.reverse=leN r:=by
    intro r
    induction r with
    | nil=>rfl
    | cons x r ih=>unfold beN at ih ⊢;simp only[List.reverse_cons,List.foldl_append,List.foldl_cons,List.foldl_nil,ih,leN];omega
   have:=key l.reverse
   rwa [List.reverse_reverse]at this
  intro v;exact⟨by rw[h,hs],trivial⟩
 intro l
 induction l with
 | nil=>intro v;simp [beN]
 | cons x r ih=>intro v;unfold beN;simp only[List.foldl_cons,Z11,Nat.pow_succ];rw[ih,ih];simp only[Nat.zero_mul,Z22,Nat.add_mul,Nat.mul_assoc];rw[Nat.mul_comm 256];omega
theorem X5n (l:List UInt8):beN l=leN l.reverse:=by
 have:=(X0g l 0).1;simpa [beN] using this
theorem X9x (l:List UInt8):beN l<256 ^ l.length:=by rw[X5n];have:=W9n l.reverse;simpa using this
theorem Y5o (l:List UInt8) {k:Nat} (h:l.length≤k):beN l<256 ^ k:=Z07 (X9x l) (X1r h)
theorem Y6g {α:Type} {l:List α} {k:Nat} {x:α} (h:l[k]? = some x):l.take (k+1)=l.take k++[x]:=by
 obtain⟨hk,rfl⟩:=Z24.1 h;rw[List.take_succ_eq_append_getElem hk]
theorem X0q (l:List UInt8) (x:UInt8):beN (l++[x])=beN l*256+x.toNat:=by simp [beN]
theorem W6h (y x:Nat) (hx:x<256) (hy:y<72057594037927936):bits .or .u64 ((y:Int)*256) (x:Int)=((y*256+x:Nat):Int):=by
 have h:=u64_or_nat (y*256) x (by omega) (by omega);rw[nat_join 8 (y*256) x (by omega) (by omega)]at h;rw[←h];simp
theorem pow8:256 ^ 8=18446744073709551616:=by decide
theorem pow7:256 ^ 7=72057594037927936:=by decide
open Go.RowKit
def leB (n:Nat) (v:Int):List UInt8:=(List.range n).map fun i=>UInt8.ofNat ((v % 18446744073709551616).toNat / 256 ^ i)
theorem X5z (n:Nat) (v:Int):(leB n v).length=n:=by simp [leB]
theorem W6z {n k:Nat} (v:Int) (hk:k<n):(leB n v)[k]? = some (UInt8.ofNat ((v % 18446744073709551616).toNat / 256 ^ k)):=by simp [leB,hk]
theorem W9y (v:Int) (k:Nat):Value.int .u8 (IntKind.u64.wrap v / 2 ^ (8*k) % 256)=bV (UInt8.ofNat ((v % 18446744073709551616).toNat / 256 ^ k)):=by
 have h1:IntKind.u64.wrap v=((v % 18446744073709551616).toNat:Int):=by rw[IntKind.wrap_u64];omega
 have h2:(2:Int) ^ (8*k)=((256 ^ k:Nat):Int):=by rw[show 256=2 ^ 8 from rfl,←Nat.pow_mul];simp
 unfold bV;rw[h1,h2,UInt8.toNat_ofNat']
 congr 1
theorem X1w {l:List UInt8} {n k:Nat} {x:UInt8} (hk:k<n) (hx:l[k]? = some x) :
  (List.replicate (n-k) 0++(l.take k).reverse).set (n-1-k) x=List.replicate (n-(k+1)) 0++(l.take (k+1)).reverse:=by
 rw[Y6g hx,List.reverse_append,show n-k=(n-(k+1))+1 by omega,List.replicate_succ',List.append_assoc,
  List.set_append_right _ _ (by simp;omega)]
 simp [show n-1-k-(n-(k+1))=0 by omega]
theorem X0e {l:List UInt8} {n k:Nat} (hk:k<n):(List.replicate (n-k) 0++(l.take k).reverse)[n-1-k]? = some 0:=by
 rw[List.getElem?_append_left (by simp;omega),List.getElem?_replicate,if_pos (by omega)]
theorem X3j (n:Nat):∀V:Nat,leN ((List.range n).map fun i=>UInt8.ofNat (V / 256 ^ i))=V % 256 ^ n:=by
 induction n with
 | zero=>intro V;simp [leN,Nat.mod_one]
 | succ n ih=>
  intro V;rw[List.range_succ_eq_map,List.map_cons,List.map_map,leN]
  have h:((fun i=>UInt8.ofNat (V / 256 ^ i)) ∘ Nat.succ)=fun i=>UInt8.ofNat (V / 256 / 256 ^ i):=by
   funext i
   show UInt8.ofNat (V / 256 ^ (i+1))=_;rw[Nat.pow_succ,Nat.mul_comm,Nat.div_div_eq_div_mul]
  have h9:256 ^ (n+1)=256*256 ^ n:=(by rw[Nat.pow_succ,Nat.mul_comm]);rw[h,ih,UInt8.toNat_ofNat',Nat.pow_zero,Nat.div_one,h9,Nat.mod_mul]
theorem W8f {n v:Nat} (hv:v<256 ^ n) (h:v<18446744073709551616):leN (leB n (v:Int))=v:=by
 unfold leB;rw[show ((v:Int) % 18446744073709551616).toNat=v by omega,X3j,Nat.mod_eq_of_lt hv]
def bitAt (l:List UInt8) (i:Nat):Nat:=(l.getD (i / 8) 0).toNat / 2 ^ (i % 8) % 2
def takeN (l:List UInt8) (a:Nat):Nat→Nat
 | 0=>0
 | n+1=>takeN l a n+2 ^ n*bitAt l (a+n)
end Go.Proofs.YtpmfiegfbmamiaaDoor
namespace Go.Proofs.YtpmfiegfbmamiaaDoor
inductive Rz (α:Type) where
 | ok (a:α):Rz α
 | err (e:Int):Rz α
def Rz.bind {α β:Type}:Rz α→(α→Rz β)→Rz β
 | .ok a,f=>f a
 | .err e,_ => .err e
def tk (b:List UInt8) (p n:Nat):Rz (Nat×Nat):=if p+n≤8*b.length then .ok (takeN b p n,p+n) else .err 2
theorem Y6q (n:Int) (h0:0≤n) (h1:n<2 ^ 16):IntKind.u16.wrap n=n:=by
 have:IntKind.u16.wrap n=n % 65536:=by simp [IntKind.wrap,IntKind.bits,IntKind.signed]
 rw[this];omega
def two (a b:Nat):Nat:=a % 32*64+b % 64
def three (a b c:Nat):Nat:=a % 16*4096+b % 64*64+c % 64
def unit3 (a:Nat) (b c:Option UInt8):Option (Nat×Nat):=
 if 0<a∧a<128 then some (a,1)
 else if a / 32=6 then match b with
  | some b=>if b.toNat / 64=2∧¬(0<two a b.toNat∧two a b.toNat<128) then some (two a b.toNat,2) else none
  | none=>none
 else if a / 16=14 then match b,c with
  | some b,some c=>if b.toNat / 64=2∧c.toNat / 64=2∧2048≤three a b.toNat c.toNat then some (three a b.toNat c.toNat,3) else none
  | _,_=>none
 else none
def unitsGo:Nat→List UInt16→List UInt8→Option (List UInt16)
 | _,us,[]=>some us
 | 0,_,_::_=>none
 | f+1,us,a::r=>match unit3 a.toNat r[0]? r[1]? with
  | none=>none
  | some (v,n)=>unitsGo f (us++[UInt16.ofNat v]) ((a::r).drop n)
def unitsB (l:List UInt8):Option (List UInt16):=unitsGo l.length [] l
def unitsV (l:List UInt8):List UInt16×Int:=match unitsB l with
 | none=>([],23)
 | some us=>(us,0)
theorem Y5m {l:List UInt8} (h:unitsB l=none):unitsV l=([],23):=by unfold unitsV;rw[h]
theorem Y6c {l:List UInt8} {us:List UInt16} (h:unitsB l=some us):unitsV l=(us,0):=by unfold unitsV;rw[h]
theorem Y0z (f:Nat) (us:List UInt16):unitsGo f us []=some us:=by cases f <;> rfl
theorem Y5y {l:List UInt8} {i f:Nat} {us:List UInt16} {a:UInt8} (h:l[i]? = some a) :
  unitsGo (f+1) us (l.drop i)=match unit3 a.toNat l[i+1]? l[i+2]? with
   | none=>none
   | some (v,n)=>unitsGo f (us++[UInt16.ofNat v]) (l.drop (i+n)):=by
 obtain⟨hl,he⟩:=Z24.1 h;have hd:l.drop i=a::l.drop (i+1):=(by rw[Z42 hl,he]);have e1:(l.drop (i+1))[0]? = l[i+1]? := by rw[List.getElem?_drop]
 have e2:(l.drop (i+1))[1]? = l[i+2]? := by rw[List.getElem?_drop]
 rw[hd]
 show (match unit3 a.toNat (l.drop (i+1))[0]? (l.drop (i+1))[1]? with
   | none=>none
   | some (v,n)=>unitsGo f (us++[UInt16.ofNat v]) ((a::l.drop (i+1)).drop n))=_
 rw[e1,e2,←hd];simp only[List.drop_drop]
theorem Y8p {l:List UInt8} {i f:Nat} {us:List UInt16} {a:UInt8} (h:l[i]? = some a) (h3:unit3 a.toNat l[i+1]? l[i+2]? = none):unitsGo f us (l.drop i)=none:=by
 cases f with
 | zero=>obtain⟨hl,he⟩:=Z24.1 h;rw[Z42 hl];rfl
 | succ f=>rw[Y5y h,h3]
theorem Y6x {l:List UInt8} {i f n:Nat} {v:Nat} {us:List UInt16} {a:UInt8} (h:l[i]? = some a) (hf:0<f) (h3:unit3 a.toNat l[i+1]? l[i+2]? = some (v,n)):unitsGo f us (l.drop i)=unitsGo (f-1) (us++[UInt16.ofNat v]) (l.drop (i+n)):=by
 obtain⟨g,rfl⟩:∃g,f=g+1:=⟨f-1,by omega⟩;rw[Y5y h,h3];rfl
theorem X3n {v:Int} (h0:0≤v) (h1:v<65536):bits .and .u16 v 31=v % 32:=bits_mask .u16 16 (by decide) Y6q 5 (by decide) v h0 h1
theorem X2u {v:Int} (h0:0≤v) (h1:v<65536):bits .and .u16 v 15=v % 16:=bits_mask .u16 16 (by decide) Y6q 4 (by decide) v h0 h1
theorem X6l {x y:Int} (h0:0≤x) (h1:x<65536) (hx:x % 64=0) (h2:0≤y) (h3:y<64):bits .or .u16 x y=x+y:=
 bits_join .u16 16 (by decide) Y6q 6 x y h0 hx h1 h2 h3 (by omega)
theorem X0a {x y:Int} (h0:0≤x) (h1:x<65536) (hx:x % 4096=0) (h2:0≤y) (h3:y<4096):bits .or .u16 x y=x+y:=
 bits_join .u16 16 (by decide) Y6q 12 x y h0 hx h1 h2 h3 (by omega)
theorem uVnat {v:Nat} (h:v<65536):(UInt16.ofNat v).toNat=v:=by rw[UInt16.toNat_ofNat'];omega
theorem X9b (n:Int):IntKind.u16.wrap n=n % 65536:=by simp [IntKind.wrap,IntKind.bits,IntKind.signed]
theorem X1k {a b:Nat} (ha:a<256):bits .or .u16 (IntKind.u16.wrap (bits .and .u16 (a:Int) 31*64)) ((b:Int) % 64)=(two a b:Int):=by
 rw[X3n (by omega) (by omega),X9b,X6l (by omega) (by omega) (by omega) (by omega) (by omega)];unfold two;omega
theorem X8j {a b c:Nat} (ha:a<256):bits .or .u16 (bits .or .u16 (IntKind.u16.wrap (bits .and .u16 (a:Int) 15*4096)) ((b:Int) % 64*64)) ((c:Int) % 64)=(three a b c:Int):=by
 rw[X2u (by omega) (by omega),X9b,X0a (x:=(a:Int) % 16*4096 % 65536) (y:=(b:Int) % 64*64) (by omega) (by omega) (by omega) (by omega) (by omega),X6l (by omega) (by omega) (by omega) (by omega) (by omega)];unfold three;omega
theorem W4o (a b:Nat):two a b<2048:=by unfold two;omega
theorem X1q (a b c:Nat):three a b c<65536:=by unfold three;omega
section
variable {a:Nat} {b c:Option UInt8}
theorem X4e {x:UInt8} (ha:a / 32=6) (hb:b=some x) (h:x.toNat / 64=2) (hv:¬(0<two a x.toNat∧two a x.toNat<128)):unit3 a b c=some (two a x.toNat,2):=by
 subst hb;unfold unit3;rw[if_neg (by omega),if_pos ha];simp only;rw[if_pos ⟨h,hv⟩]
theorem Y7f (ha:a / 32=6) (hb:∀x,b=some x→¬(x.toNat / 64=2∧¬(0<two a x.toNat∧two a x.toNat<128))):unit3 a b c=none:=by
 unfold unit3;rw[if_neg (by omega),if_pos ha];cases b with
 | none=>rfl
 | some x=>simp only;rw[if_neg (hb x rfl)]
theorem Y0i {x y:UInt8} (ha:a / 16=14) (hb:b=some x) (hc:c=some y) (h:x.toNat / 64=2) (h':y.toNat / 64=2) (hv:2048≤three a x.toNat y.toNat):unit3 a b c=some (three a x.toNat y.toNat,3):=by
 subst hb;subst hc;unfold unit3;rw[if_neg (by omega),if_neg (by omega),if_pos ha];simp only;rw[if_pos ⟨h,h',hv⟩]
theorem Y8h (ha:a / 16=14) (hb:∀x y,b=some x→c=some y→¬(x.toNat / 64=2∧y.toNat / 64=2∧2048≤three a x.toNat y.toNat)):unit3 a b c=none:=by
 unfold unit3;rw[if_neg (by omega),if_neg (by omega),if_pos ha];cases b with
 | none=>rfl
 | some x=>cases c with
  | none=>rfl
  | some y=>simp only;rw[if_neg (hb x y rfl rfl)]
theorem Y1i (h1:¬(0<a∧a<128)) (h2:¬a / 32=6) (h3:¬a / 16=14):unit3 a b c=none:=by
 unfold unit3;rw[if_neg h1,if_neg h2,if_neg h3]
end
open Go.RowKit
structure Cst where
 tag:Int
 a:Int
 b:Int
 num:Int
 text:List UInt8
deriving DecidableEq
structure Att where
 name:Int
 data:List UInt8
deriving DecidableEq
structure Mem where
 access:Int
 name:Int
 desc:Int
 attrs:List Att
deriving DecidableEq
structure Img where
 minor:Int
 major:Int
 pool:List Cst
 access:Int
 this:Int
 super:Int
 ifaces:List Int
 fields:List Mem
 methods:List Mem
 attrs:List Att
deriving DecidableEq
def cst0:Cst:=⟨0,0,0,0,[]⟩
abbrev Py (α:Type):=List UInt8→Nat→Rz (α×Nat)
def retP {α:Type} (a:α):Py α:=fun _ p => .ok (a,p)
def failP {α:Type} (e:Int):Py α:=fun _ _ => .err e
def bindP {α β:Type} (A:Py α) (F:α→Py β):Py β:=fun b p=>(A b p).bind fun x=>F x.1 b x.2
def rdN (n:Nat):Py Nat:=fun b p=>if p+n≤b.length then .ok (beN ((b.drop p).take n),p+n) else .err 2
def rdB (n:Nat):Py (List UInt8):=fun b p=>if p+n≤b.length then .ok ((b.drop p).take n,p+n) else .err 2
def sgn32 (v:Nat):Int:=if 2147483648≤v then (v:Int)-4294967296 else v
def uOk (s:List UInt8):Bool:=(unitsB s).isSome
def cstP:Py Cst:=bindP (rdN 1) fun t=>
 if t=1 then bindP (rdN 2) fun n=>bindP (rdB n) fun s=>if uOk s=true then retP ⟨1,0,0,0,s⟩ else failP 23
 else if t=3 then bindP (rdN 4) fun v=>retP ⟨3,0,0,sgn32 v,[]⟩
 else if t=5 then bindP (rdN 8) fun v=>retP ⟨5,0,0,wrap64 (v:Int),[]⟩
 else if t=7∨t=8 then bindP (rdN 2) fun a=>retP ⟨t,a,0,0,[]⟩
 else if t=9∨t=10∨t=11∨t=12 then bindP (rdN 2) fun a=>bindP (rdN 2) fun b=>retP ⟨t,a,b,0,[]⟩
 else failP 24
def repP {α:Type} (A:Py α):Nat→Py (List α)
 | 0=>retP []
 | n+1=>bindP A fun x=>bindP (repP A n) fun r=>retP (x::r)
def cntI:Py Nat:=bindP (rdN 2) fun n=>if 64<n then failP 24 else retP n
def attP:Py Att:=bindP (rdN 2) fun nm=>bindP (rdN 4) fun sz=>bindP (rdB sz) fun d=>retP ⟨nm,d⟩
def attsP:Py (List Att):=bindP cntI fun n=>repP attP n
def memP:Py Mem:=bindP (rdN 2) fun ac=>bindP (rdN 2) fun nm=>bindP (rdN 2) fun ds=>bindP attsP fun at_=>retP ⟨ac,nm,ds,at_⟩
def memsP:Py (List Mem):=bindP cntI fun n=>repP memP n
def poolP:Nat→Nat→Py (List Cst)
 | 0,_=>retP []
 | f+1,k=>if k=0 then retP [] else bindP cstP fun c=>if c.tag=5 then (if k=1 then failP 24 else bindP (poolP f (k-2)) fun r=>retP (c::cst0::r)) else bindP (poolP f (k-1)) fun r=>retP (c::r)
def ifP:Py (List Int):=bindP cntI fun k=>bindP (repP (rdN 2) k) fun l=>retP (l.map fun (x:Nat)=>(x:Int))
def imgP:Py Img:=bindP (rdN 4) fun g=>if g≠3405691582 then failP 24 else bindP (rdN 2) fun mi=>bindP (rdN 2) fun ma=>if ma<45∨52<ma then failP 24 else
 bindP (rdN 2) fun n=>if n<1∨1024<n then failP 24 else bindP (poolP n (n-1)) fun pl=>bindP (rdN 2) fun ac=>bindP (rdN 2) fun th=>bindP (rdN 2) fun su=>bindP ifP fun ifs=>
 bindP memsP fun fs=>bindP memsP fun ms=>bindP attsP fun at_=>retP ⟨mi,ma,cst0::pl,ac,th,su,ifs,fs,ms,at_⟩
def tagP (pool:List Cst) (i:Int):Int:=if i<1 then 0 else match pool[i.toNat]? with
 | some c=>c.tag
 | none=>0
def u2P (x:Int):Bool:=decide (0≤x∧x≤65535)
def rightP (pool:List Cst) (i:Nat) (c:Cst):Bool:=
 if c.tag=0 then decide ((i=0∨(pool[i-1]?).map (·.tag)=some 5)∧c=cst0)
 else decide (i≠0)&&(if c.tag=1 then uOk c.text&&decide (c.text.length≤65535∧c=⟨1,0,0,0,c.text⟩)
  else if c.tag=3 then decide (-2147483648≤c.num∧c.num≤2147483647∧c=⟨3,0,0,c.num,[]⟩)
  else if c.tag=5 then decide ((pool[i+1]?).map (·.tag)=some 0∧c=⟨5,0,0,c.num,[]⟩)
  else if c.tag=7∨c.tag=8 then decide (tagP pool c.a=1∧c=⟨c.tag,c.a,0,0,[]⟩)
  else if c.tag=9∨c.tag=10∨c.tag=11 then decide (tagP pool c.a=7∧tagP pool c.b=12∧c=⟨c.tag,c.a,c.b,0,[]⟩)
  else if c.tag=12 then decide (tagP pool c.a=1∧tagP pool c.b=1∧c=⟨12,c.a,c.b,0,[]⟩)
  else false)
def rightsP (pool:List Cst):Bool:=(List.range pool.length).all fun i=>match pool[i]? with
 | some c=>rightP pool i c
 | none=>true
def attOk (pool:List Cst) (x:Att):Bool:=decide (tagP pool x.name=1)&&decide (x.data.length≤32768)
def attsOk (pool:List Cst) (l:List Att):Bool:=l.all (attOk pool)&&decide (l.length≤64)
def memOk (pool:List Cst) (x:Mem):Bool:=u2P x.access&&decide (tagP pool x.name=1)&&decide (tagP pool x.desc=1)&&attsOk pool x.attrs
def memsOk (pool:List Cst) (l:List Mem):Bool:=l.all (memOk pool)&&decide (l.length≤64)
def headOk (m:Img):Bool:=u2P m.minor&&decide (45≤m.major∧m.major≤52)&&decide (1≤m.pool.length∧m.pool.length≤1024)&&u2P m.access&&decide (m.ifaces.length≤64)
def holdsP (m:Img):Bool:=headOk m&&rightsP m.pool&&m.ifaces.all (fun i=>decide (tagP m.pool i=7))&&decide (tagP m.pool m.this=7)&&decide (m.super=0∨tagP m.pool m.super=7) &&
 memsOk m.pool m.fields&&memsOk m.pool m.methods&&attsOk m.pool m.attrs
def parseP (b:List UInt8):Rz Img:=if 32768<b.length then .err 8 else (imgP b 0).bind fun x=>if x.2≠b.length∨holdsP x.1=false then .err 24 else .ok x.1
def beB (n:Nat) (v:Int):List UInt8:=(leB n v).reverse
def cstB (c:Cst):List UInt8:=
 if c.tag=0 then [] else beB 1 c.tag++(if c.tag=1 then beB 2 c.text.length++c.text else if c.tag=3 then beB 4 c.num else if c.tag=5 then beB 8 c.num
  else if c.tag=7∨c.tag=8 then beB 2 c.a else beB 2 c.a++beB 2 c.b)
def attB (x:Att):List UInt8:=beB 2 x.name++(beB 4 x.data.length++x.data)
def attsB (l:List Att):List UInt8:=beB 2 l.length++l.flatMap attB
def memB (x:Mem):List UInt8:=beB 2 x.access++(beB 2 x.name++(beB 2 x.desc++attsB x.attrs))
def memsB (l:List Mem):List UInt8:=beB 2 l.length++l.flatMap memB
def ifB (l:List Int):List UInt8:=beB 2 l.length++l.flatMap (beB 2)
def imgB (m:Img):List UInt8:=beB 4 3405691582++(beB 2 m.minor++(beB 2 m.major++(beB 2 m.pool.length++(m.pool.flatMap cstB++(beB 2 m.access++(beB 2 m.this++(beB 2 m.super++(ifB m.ifaces++(memsB m.fields++(memsB m.methods++attsB m.attrs))))))))))
theorem beB_len (n:Nat) (v:Int):(beB n v).length=n:=by unfold beB;rw[List.length_reverse,X5z]
theorem W6l {n v:Nat} (hv:v<256 ^ n) (h:v<18446744073709551616):beN (beB n (v:Int))=v:=by
 unfold beB;rw[X5n,List.reverse_reverse,W8f hv h]
theorem W8m (l:List UInt8) (h8:l.length≤8):beB l.length (beN l:Int)=l:=by
 have key:∀r:List UInt8,r.length≤8→leB r.length (leN r:Int)=r:=by
  intro r hr;have hlt:leN r<18446744073709551616:=by have h1:=W9n r;have h2:=Nat.pow_le_pow_right (n:=256) (by omega) hr;have h3:=pow8;omega
  unfold leB;rw[show ((leN r:Int) % 18446744073709551616).toNat=leN r by omega];clear hr hlt
  induction r with
  | nil=>rfl
  | cons x r ih=>
   rw[Z11,List.range_succ_eq_map,List.map_cons,List.map_map]
   congr 1
   ·simp only[Nat.pow_zero,Nat.div_one,leN]
    rw[←UInt8.toNat_inj,UInt8.toNat_ofNat']
    have:=u8lt x
    omega
   ·have e:((fun i=>UInt8.ofNat (leN (x::r) / 256 ^ i)) ∘ Nat.succ)=fun i=>UInt8.ofNat (leN r / 256 ^ i):=by
     funext i
     show UInt8.ofNat (leN (x::r) / 256 ^ (i+1))=_;rw[Nat.pow_succ,Nat.mul_comm,←Nat.div_div_eq_div_mul]
     congr 2
     simp only[leN]
     have:=u8lt x
     omega
    rw[e,ih]
 have h1:=key l.reverse (by simpa using h8);rw[List.length_reverse,←X5n]at h1;unfold beB;rw[h1,List.reverse_reverse]
open Go.Lib
def badL:List UInt8:=[46,59,91,92,40,41,60,62]
def okc (c:UInt8):Bool:=decide (32<c.toNat)&&c.toNat != 127 && !badL.contains c
def cleanB (l:List UInt8):Bool:=l.all okc && !l.isEmpty
theorem Y7l (l:List UInt8) (c:UInt8):(0≤indexByte l c)↔c∈l:=by
 induction l with
 | nil=>simp [indexByte]
 | cons b r ih=>
  have hge:=indexByte_ge r c;unfold indexByte;by_cases h:b=c
  ·subst h;simp
  ·have h1:(b==c)=false:=by simpa using h
   rw[h1];by_cases h2:indexByte r c = -1
   ·rw[h2]
    have h3:c ∉ r:=fun hm=>by have:=ih.2 hm;omega
    have h4:¬c=b:=fun e=>h e.symm;simp [h3,h4]
   ·have h3:(indexByte r c == -1)=false:=by simpa using h2
    rw[h3];have h4:c∈r:=ih.1 (by omega);simp [h4];omega
def classGo:List UInt8→Nat→Bool
 | [],n=>decide (0<n)
 | c::r,n=>if c=47 then decide (0<n)&&classGo r 0 else okc c&&classGo r (n+1)
theorem Y2h (l:List UInt8) (h:(47:UInt8) ∉ l) (n:Nat):classGo l n=(l.all okc&&decide (0<n+l.length)):=by
 induction l generalizing n with
 | nil=>simp [classGo]
 | cons c r ih=>have hc:¬c=47:=fun e=>h (by simp [e]);have hr:(47:UInt8) ∉ r:=fun hm=>h (by simp [hm]);unfold classGo;rw[if_neg hc,ih hr];simp only[List.all_cons,Z11];rw[show n+1+r.length=n+(r.length+1) by omega,Bool.and_assoc]
theorem X7r (a r:List UInt8) (h:(47:UInt8) ∉ a) (n:Nat):classGo (a++47::r) n=(a.all okc&&decide (0<n+a.length)&&classGo r 0):=by
 induction a generalizing n with
 | nil=>simp [classGo]
 | cons c t ih=>have hc:¬c=47:=fun e=>h (by simp [e]);have hr:(47:UInt8) ∉ t:=fun hm=>h (by simp [hm]);have e:classGo (c::(t++47::r)) n=(if c=47 then decide (0<n)&&classGo (t++47::r) 0 else okc c&&classGo (t++47::r) (n+1)):=rfl;rw[List.cons_append,e,if_neg hc,ih hr];simp only[List.all_cons,Z11];rw[show n+1+t.length=n+(t.length+1) by omega];simp [Bool.and_assoc]
theorem Y0w (k:Nat):∀l:List UInt8,count l [47]=k→(splitK [47] 0 k l).all cleanB=classGo l 0:=by
 induction k with
 | zero=>
  intro l hk;rw[count_one]at hk;have hm:(47:UInt8) ∉ l:=List.count_eq_zero.1 hk;rw[Y2h l hm];simp only[splitK,List.all_cons,List.all_nil,Bool.and_true,cleanB]
  congr 1
  cases l <;> simp
 | succ k ih=>
  intro l hk;have hne:¬index l [47] = -1:=fun e=>by rw[count_miss e]at hk;omega
  have hge:=index_ge l [47];obtain⟨i,hi⟩:=Z44 (show 0≤index l [47] by omega);have hb:indexByte l 47=i:=by rw[←index_one];exact hi
  obtain⟨h1,h2⟩:=indexByte_some hb;have hc:=count_hit (s:=l) (sub:=[47]) (by simp) hi;rw[hk]at hc;obtain⟨hil,hi47⟩:=Z24.1 h1;have hl:l=l.take i++47::l.drop (i+1):=by rw[←hi47,←Z42 hil,List.take_append_drop]
  have hm:(47:UInt8) ∉ l.take i:=fun hmem=>by
   obtain⟨j,hj⟩:=List.getElem?_of_mem hmem;rw[List.getElem?_take]at hj
   split at hj
   ·exact h2 j (by assumption) hj
   ·cases hj
  unfold splitK;rw[show (index l [47] == -1)=false by simpa using hne];simp only[Bool.false_eq_true,if_false,hi,Z30,Nat.add_zero,List.length_singleton,List.all_cons];rw[ih _ (by simpa using (by simp only[List.length_singleton]at hc;omega))]
  conv=>rhs;rw[hl,X7r _ _ hm]
  congr 1
  unfold cleanB
  congr 1
  cases hq:l.take i <;> simp
theorem X4v (l:List UInt8):(split l [47]).all cleanB=classGo l 0:=Y0w _ l rfl
open Go.Lib
def skipB:List UInt8→Nat
 | []=>0
 | c::r=>if c=91 then skipB r+1 else 0
def primL:List UInt8:=[66,67,83,90,73,74]
def classOk (l:List UInt8):Bool:=decide (l.length≤58)&&classGo l 0
def headN (l:List UInt8):Nat:=
 if 8<skipB l then 0
 else match l[skipB l]? with
  | none=>0
  | some c=>
   if c∈primL then skipB l+1
   else if c=76∧0≤indexByte l 59∧classOk ((l.drop (skipB l+1)).take ((indexByte l 59).toNat-(skipB l+1)))=true then (indexByte l 59).toNat+1
   else 0
theorem X7g {l:List UInt8} {k:Nat} {c:UInt8} (h:l[k]? = some c) (hk:skipB l=k+skipB (l.drop k)) (hc:c=91):skipB l=(k+1)+skipB (l.drop (k+1)):=by
 obtain⟨hl,he⟩:=Z24.1 h;rw[hk,Z42 hl,he];simp [skipB,hc];omega
theorem X7o {l:List UInt8} {k:Nat} {c:UInt8} (h:l[k]? = some c) (hk:skipB l=k+skipB (l.drop k)) (hc:¬c=91):skipB l=k:=by
 obtain⟨hl,he⟩:=Z24.1 h;rw[hk,Z42 hl,he];simp [skipB,hc]
theorem X7z {l:List UInt8} {k:Nat} (h:l.length≤k) (hk:skipB l=k+skipB (l.drop k)):skipB l=k:=by
 rw[hk,List.drop_eq_nil_of_le h];rfl
theorem W9t {l:List UInt8}:∀{k:Nat},k<skipB l→l[k]? = some 91:=by
 induction l with
 | nil=>intro k h;simp [skipB]at h
 | cons c r ih=>
  intro k h;unfold skipB at h
  split at h
  ·cases k with
   | zero=>simp_all
   | succ k=>simpa using ih (by omega)
  ·omega
theorem Y5j {l:List UInt8} (hc:l[skipB l]? = some 76) (h0:0≤indexByte l 59):skipB l+1≤(indexByte l 59).toNat∧(indexByte l 59).toNat<l.length:=by
 obtain⟨i,hi⟩:=Z44 h0;obtain⟨h1,h2⟩:=indexByte_some hi;have hil:=(Z24.1 h1).1;rw[hi];refine⟨?_,by simpa using hil⟩;rcases Nat.lt_or_ge i (skipB l) with h | h
 ·rw[W9t h]at h1;cases h1
 ·rcases Nat.lt_or_ge (skipB l) i with h3 | h3
  ·simp;omega
  ·obtain rfl:i=skipB l:=by omega
   rw[hc]at h1;cases h1
theorem Y0c (l:List UInt8):headN l≤l.length:=by
 unfold headN
 split
 ·omega
 ·split
  ·omega
  ·rename_i c hc
   have:=(Z24.1 hc).1
   split
   ·omega
   ·split
    ·rename_i h
     obtain⟨rfl,h0,_⟩:=h
     have:=Y5j hc h0
     omega
    ·omega
open Go.Lib
def descB (l:List UInt8):Bool:=decide (0<headN l)&&decide (headN l=l.length)
def slotsN (l:List UInt8):Int:=if l=[74] then 2 else if l=[]∨l=[86] then 0 else 1
theorem Y7d (l:List UInt8):0≤slotsN l∧slotsN l≤2:=by unfold slotsN;split <;> (try split) <;> omega
def resB (l:List UInt8):Bool:=decide (l=[86])||descB l
def methGo:Nat→List (List UInt8)→Int→List UInt8→Option (List (List UInt8)×List UInt8)
 | 0,_,_,_=>none
 | _+1,_,_,[]=>none
 | f+1,ps,k,c::r=>
  if c=41 then (if k<64∧resB r=true then some (ps,r) else none)
  else if headN (c::r)=0 then none
  else methGo f (ps++[(c::r).take (headN (c::r))]) (k+slotsN ((c::r).take (headN (c::r)))) ((c::r).drop (headN (c::r)))
def methB:List UInt8→Option (List (List UInt8)×List UInt8)
 | []=>none
 | c::r=>if c=40 then methGo (r.length+1) [] 0 r else none
def methV (l:List UInt8):List (List UInt8)×List UInt8×Int:=match methB l with
 | none=>([],[],24)
 | some (ps,r)=>(ps,r,0)
theorem X9u {l:List UInt8} (h:methB l=none):methV l=([],[],24):=by unfold methV;rw[h]
theorem Y2o {l r:List UInt8} {ps:List (List UInt8)} (h:methB l=some (ps,r)):methV l=(ps,r,0):=by unfold methV;rw[h]
section
variable {f:Nat} {ps:List (List UInt8)} {k:Int} {l r:List UInt8}
theorem X7l:methGo f ps k []=none:=by cases f <;> rfl
theorem Y7g (h:¬(k<64∧resB r=true)):methGo f ps k (41::r)=none:=by
 cases f
 ·rfl
 ·simp only[methGo,if_true];rw[if_neg h]
theorem Y7j (hf:0<f) (h1:k<64) (h2:resB r=true):methGo f ps k (41::r)=some (ps,r):=by
 obtain⟨g,rfl⟩:∃g,f=g+1:=⟨f-1,by omega⟩;simp only[methGo,if_true];rw[if_pos ⟨h1,h2⟩]
theorem X7k {c:UInt8} (hc:¬c=41) (h:headN (c::r)=0):methGo f ps k (c::r)=none:=by
 cases f
 ·rfl
 ·simp only[methGo];rw[if_neg hc,if_pos h]
theorem Y1l {c:UInt8} {h:Nat} (hl:l=c::r) (hc:¬c=41) (hh:headN l=h+1):methGo (f+1) ps k l=methGo f (ps++[l.take (h+1)]) (k+slotsN (l.take (h+1))) (l.drop (h+1)):=by
 subst hl;simp only[methGo];rw[if_neg hc,if_neg (by omega),hh]
end
theorem X8h (c:UInt8) (r:List UInt8):methB (c::r)=if c=40 then methGo (r.length+1) [] 0 r else none:=rfl
theorem X6z (r:List UInt8):methB (40::r)=methGo (r.length+1) [] 0 r:=rfl
theorem Y1h {l:List UInt8} (h:¬l[0]? = some 40):methB l=none:=by
 cases l with
 | nil=>rfl
 | cons c r=>
  rw[X8h]
  split
  ·rename_i e;exact absurd (by rw[e];rfl) h
  ·rfl
def initL:List UInt8:=[60,105,110,105,116,62]
def clinitL:List UInt8:=[60,99,108,105,110,105,116,62]
def plainName (l:List UInt8):Bool:=cleanB l&&decide (l.length≤64) && !l.contains 47
def memberB (l:List UInt8) (meth:Bool):Bool:=(meth&&(l==initL||l==clinitL))||plainName l
open Go.RowKit
structure Vt where
 kind:Int
 name:List UInt8
 at_:Int
deriving DecidableEq
structure Frm where
 tag:Int
 delta:Int
 locals:List Vt
 stack:List Vt
deriving DecidableEq
structure Hnd where
 from_:Int
 to_:Int
 at_:Int
 name:List UInt8
deriving DecidableEq
structure Mth where
 access:Int
 name:List UInt8
 desc:List UInt8
 there:Bool
 stack:Int
 locals:Int
 code:List UInt8
 handlers:List Hnd
 frames:List Frm
deriving DecidableEq
structure Fld where
 access:Int
 name:List UInt8
 desc:List UInt8
 const:Int
deriving DecidableEq
structure Cls where
 access:Int
 name:List UInt8
 super:List UInt8
 ifaces:List (List UInt8)
 fields:List Fld
 methods:List Mth
deriving DecidableEq
def gdK {α:Type} (b:Bool) (k:Option α):Option α:=if b=true then k else none
def tagK (pool:List Cst) (i:Int):Int:=if i<1 then 0 else match pool[i.toNat]? with
 | some c=>c.tag
 | none=>0
def txtK (pool:List Cst) (i:Int):Option (List UInt8):=if tagK pool i=1 then (pool[i.toNat]?).map (·.text) else none
def clsK (pool:List Cst) (i:Int):Option (List UInt8):=if tagK pool i=7 then (pool[i.toNat]?).bind fun c=>txtK pool c.a else none
def plainK (pool:List Cst) (i:Int):Option (List UInt8):=(clsK pool i).bind fun s=>gdK (classOk s) (some s)
def bitsK (n most:Nat):Bool:=decide (n &&& most=n)
def accK (n most:Nat):Bool:=bitsK n most&&decide (n &&& 7=0∨n &&& 7=1∨n &&& 7=2∨n &&& 7=4)
def cnsK (pool:List Cst) (c:Cst):Bool:=
 if c.tag=7 then (match txtK pool c.a with
  | some s=>classOk s||(decide (s.head? = some 91)&&descB s)
  | none=>false)
 else if c.tag=9∨c.tag=10∨c.tag=11 then ((plainK pool c.a).isSome&&(match pool[c.b.toNat]? with
  | some p=>(match txtK pool p.a,txtK pool p.b with
   | some n,some d=>if c.tag=9 then memberB n false&&descB d else (match methB d with
    | some (_,r)=>memberB n true&&decide (n≠clinitL)&&(decide (n≠initL)||(decide (c.tag=10)&&decide (r=[86])))
    | none=>false)
   | _,_=>false)
  | none=>false))
 else true
def poolK (pool:List Cst):Bool:=pool.all (cnsK pool)
abbrev Kr (α:Type):=List UInt8→Nat→Option (α×Nat)
def retK {α:Type} (a:α):Kr α:=fun _ p=>some (a,p)
def badK {α:Type}:Kr α:=fun _ _=>none
def bndK {α β:Type} (A:Kr α) (F:α→Kr β):Kr β:=fun b p=>(A b p).bind fun x=>F x.1 b x.2
def ifK {α:Type} (c:Bool) (A:Kr α):Kr α:=if c=true then A else badK
def numK (n most:Nat):Kr Nat:=fun b p=>if p+n≤b.length∧beN ((b.drop p).take n)≤most then some (beN ((b.drop p).take n),p+n) else none
def bytK (n:Nat):Kr (List UInt8):=fun b p=>if p+n≤b.length then some ((b.drop p).take n,p+n) else none
def endK:Kr Unit:=fun b p=>if p=b.length then some ((),p) else none
def optK {α:Type} (o:Option α):Kr α:=fun _ p=>o.map fun a=>(a,p)
def vtK (pool:List Cst):Kr Vt:=bndK (numK 1 8) fun k=>
 if k=7 then bndK (numK 2 65535) fun i=>bndK (optK (clsK pool i)) fun s=>retK ⟨7,s,0⟩
 else if k=8 then bndK (numK 2 65535) fun i=>retK ⟨8,[],i⟩
 else ifK (decide (k≤1∨4≤k)) (retK ⟨k,[],0⟩)
def repK {α:Type} (A:Kr α):Nat→Kr (List α)
 | 0=>retK []
 | n+1=>bndK A fun x=>bndK (repK A n) fun r=>retK (x::r)
def frmK (pool:List Cst):Kr Frm:=bndK (numK 1 255) fun t=>
 if t<64 then retK ⟨t,t,[],[]⟩
 else if t<128 then bndK (repK (vtK pool) 1) fun s=>retK ⟨t,(t:Int)-64,[],s⟩
 else if t=255 then bndK (numK 2 65535) fun d=>bndK (numK 2 64) fun n=>bndK (repK (vtK pool) n) fun l=>bndK (numK 2 64) fun m=>bndK (repK (vtK pool) m) fun s=>retK ⟨t,d,l,s⟩
 else ifK (decide (247≤t)) (bndK (numK 2 65535) fun d=>
  if t=247 then bndK (repK (vtK pool) 1) fun s=>retK ⟨t,d,[],s⟩
  else if 251<t then bndK (repK (vtK pool) (t-251)) fun l=>retK ⟨t,d,l,[]⟩
  else retK ⟨t,d,[],[]⟩)
def frmsK (pool:List Cst) (b:List UInt8):Option (List Frm):=(bndK (numK 2 256) (fun n=>bndK (repK (frmK pool) n) fun l=>bndK endK fun _=>retK l) b 0).map (·.1)
def hndK (pool:List Cst) (n:Nat):Kr Hnd:=bndK (numK 2 n) fun f=>bndK (numK 2 n) fun t=>bndK (numK 2 (n-1)) fun a=>bndK (numK 2 65535) fun c=>
 if c=0 then ifK (decide (f<t)) (retK ⟨f,t,a,[]⟩) else bndK (optK (plainK pool c)) fun s=>ifK (decide (f<t)) (retK ⟨f,t,a,s⟩)
def smtN:List UInt8:=[83,116,97,99,107,77,97,112,84,97,98,108,101]
def atsK (pool:List Cst):Nat→Bool→List Frm→Kr (List Frm)
 | 0,_,fs=>retK fs
 | k+1,seen,fs=>bndK (numK 2 65535) fun i=>bndK (optK (txtK pool i)) fun w=>bndK (numK 4 4294967296) fun n=>bndK (bytK n) fun d=>if w=smtN then ifK (!seen) (bndK (optK (frmsK pool d)) fun fs'=>atsK pool k true fs') else atsK pool k seen fs
structure Cod where
 stack:Int
 locals:Int
 code:List UInt8
 handlers:List Hnd
 frames:List Frm
def codK (pool:List Cst) (least:Int) (b:List UInt8):Option Cod:=(bndK (numK 2 64) (fun st=>bndK (numK 2 64) fun lo=>bndK (numK 4 4096) fun n=>ifK (decide (least≤(lo:Int)∧0<n)) (bndK (bytK n) fun cd=>
 bndK (numK 2 64) fun h=>bndK (repK (hndK pool n) h) fun hs=>bndK (numK 2 64) fun k=>bndK (atsK pool k false []) fun fs=>bndK endK fun _=>retK (⟨st,lo,cd,hs,fs⟩:Cod))) b 0).map (·.1)
def namK (pool:List Cst) (what:List UInt8):List Att→Option (List (List UInt8))
 | []=>some []
 | a::r=>match txtK pool a.name,namK pool what r with
  | some s,some l=>some (if s=what then a.data::l else l)
  | _,_=>none
def cvN:List UInt8:=[67,111,110,115,116,97,110,116,86,97,108,117,101]
def cdN:List UInt8:=[67,111,100,101]
def tagOf (d:List UInt8):Int:=if d=[66]∨d=[67]∨d=[83]∨d=[90]∨d=[73] then 3 else if d=[74] then 5 else if d=[76,106,97,118,97,47,108,97,110,103,47,83,116,114,105,110,103,59] then 8 else 0
def fldK (pool:List Cst) (iface:Bool) (x:Mem):Option Fld:=(txtK pool x.name).bind fun n=>(txtK pool x.desc).bind fun d=>
 gdK (accK x.access.toNat 31&&(!iface||decide (x.access=25))&&memberB n false&&descB d) ((namK pool cvN x.attrs).bind fun vs=>
  if x.access.toNat &&& 8=0∨vs=[] then some ⟨x.access,n,d,0⟩ else match vs with
   | [v]=>if v.length=2 then (let c:=beN v;gdK (decide (0<c∧c<pool.length)&&decide (tagOf d≠0)&&decide (tagK pool c=tagOf d)) (some ⟨x.access,n,d,c⟩)) else none
   | _=>none)
def mthK (pool:List Cst) (iface:Bool) (x:Mem):Option Mth:=(txtK pool x.name).bind fun n=>(txtK pool x.desc).bind fun d=>
 gdK (accK x.access.toNat 1055) ((methB d).bind fun pr=>gdK (memberB n true) (
  let abs:=decide (x.access.toNat &&& 1024≠0);let sta:=decide (x.access.toNat &&& 8≠0)
  gdK (!abs||bitsK x.access.toNat 1029) (gdK (if n=clinitL then sta&&decide (d=[40,41,86]) else if n=initL then !iface&&decide (pr.2=[86])&&bitsK x.access.toNat 7 else !iface||decide (x.access=1025)) (
   (namK pool cdN x.attrs).bind fun cs=>if abs=true then gdK (decide (cs=[])) (some ⟨x.access,n,d,false,0,0,[],[],[]⟩) else match cs with
    | [c]=>(codK pool ((if sta=true then 0 else 1)+(pr.1.map slotsN).sum) c).map fun k=>⟨x.access,n,d,true,k.stack,k.locals,k.code,k.handlers,k.frames⟩
    | _=>none))))
def eachK {α β:Type} (f:α→Option β) (key:β→List UInt8×List UInt8):List α→List (List UInt8×List UInt8)→Option (List β)
 | [],_=>some []
 | x::r,seen=>(f x).bind fun y=>gdK (!seen.contains (key y)) ((eachK f key r (key y::seen)).map fun l=>y::l)
def objN:List UInt8:=[106,97,118,97,47,108,97,110,103,47,79,98,106,101,99,116]
def readK (m:Img):Option Cls:=gdK (poolK m.pool) ((plainK m.pool m.this).bind fun nm=>gdK (bitsK m.access.toNat 1585) (
 let iface:=decide (m.access.toNat &&& 512≠0)
 gdK (!iface||decide (m.access.toNat &&& 1024≠0)) (gdK (decide (m.access.toNat &&& 1024=0)||decide (m.access.toNat &&& 16=0)) (
  (if nm=objN then gdK (decide (m.super=0∧m.ifaces=[]) && !iface) (some []) else (plainK m.pool m.super).bind fun s=>gdK (!iface||decide (s=objN)) (some s)).bind fun su=>
   (eachK (plainK m.pool) (fun s=>(s,[])) m.ifaces []).bind fun ifs=>(eachK (fldK m.pool iface) (fun f=>(f.name,f.desc)) m.fields []).bind fun fs=>
    (eachK (mthK m.pool iface) (fun f=>(f.name,f.desc)) m.methods []).map fun ms=>⟨m.access,nm,su,ifs,fs,ms⟩))))
def ofP (m:Img):Option Cls:=if holdsP m=true then readK m else none
open Go.RowKit
def idxK (P:List Cst) (x:Cst):Option Nat:=(P.drop 1).findIdx? fun y=>decide (y=x)
def putK (P:List Cst) (x:Cst):List Cst×Nat:=match idxK P x with
 | some i=>(P,i+1)
 | none=>(P++[x],P.length)
def ptxK (P:List Cst) (s:List UInt8):List Cst×Nat:=putK P ⟨1,0,0,0,s⟩
def pclK (P:List Cst) (s:List UInt8):List Cst×Nat:=putK (ptxK P s).1 ⟨7,(ptxK P s).2,0,0,[]⟩
def rowK {α β:Type} (f:List Cst→α→List Cst×List β):List Cst→List α→List Cst×List β
 | P,[]=>(P,[])
 | P,x::r=>((rowK f (f P x).1 r).1,(f P x).2++(rowK f (f P x).1 r).2)
def mvtK (P:List Cst) (t:Vt):List Cst×List UInt8:=
 if t.kind=7 then ((pclK P t.name).1,beB 1 t.kind++beB 2 (pclK P t.name).2) else if t.kind=8 then (P,beB 1 t.kind++beB 2 t.at_) else (P,beB 1 t.kind)
def mfrK (P:List Cst) (f:Frm):List Cst×List UInt8:=
 let h:=beB 1 f.tag++(if 247≤f.tag then beB 2 f.delta else [])
 let l:=rowK mvtK P f.locals
 let s:=rowK mvtK l.1 f.stack
 if f.tag=255 then (s.1,h++(beB 2 f.locals.length++l.2)++(beB 2 f.stack.length++s.2)) else (s.1,h++l.2++s.2)
def mhnK (P:List Cst) (h:Hnd):List Cst×List UInt8:=
 let c:List Cst×Nat:=if h.name=[] then (P,0) else pclK P h.name
 (c.1,beB 2 h.from_++beB 2 h.to_++beB 2 h.at_++beB 2 c.2)
def mcdK (P:List Cst) (m:Mth):List Cst×List UInt8:=
 let hs:=rowK mhnK P m.handlers
 let b:=beB 2 m.stack++beB 2 m.locals++beB 4 m.code.length++m.code++beB 2 m.handlers.length++hs.2
 if m.frames=[] then (hs.1,b++beB 2 0) else
  let t:=ptxK hs.1 smtN
  let fs:=rowK mfrK t.1 m.frames
  let f:=beB 2 m.frames.length++fs.2
  (fs.1,b++beB 2 1++beB 2 t.2++beB 4 f.length++f)
def mflK (P:List Cst) (f:Fld):List Cst×List Mem:=
 let n:=ptxK P f.name
 let d:=ptxK n.1 f.desc
 if f.const=0 then (d.1,[⟨f.access,n.2,d.2,[]⟩]) else ((ptxK d.1 cvN).1,[⟨f.access,n.2,d.2,[⟨(ptxK d.1 cvN).2,beB 2 f.const⟩]⟩])
def mmtK (P:List Cst) (m:Mth):List Cst×List Mem:=
 let n:=ptxK P m.name
 let d:=ptxK n.1 m.desc
 if m.there=false then (d.1,[⟨m.access,n.2,d.2,[]⟩]) else
  let a:=ptxK d.1 cdN
  ((mcdK a.1 m).1,[⟨m.access,n.2,d.2,[⟨a.2,(mcdK a.1 m).2⟩]⟩])
def mifK (P:List Cst) (s:List UInt8):List Cst×List Int:=((pclK P s).1,[((pclK P s).2:Int)])
def fitsK (c:Cls) (pool:List Cst):Bool:=decide (pool.length≤1024∧c.ifaces.length≤64∧c.fields.length≤64∧c.methods.length≤64) &&
 c.methods.all fun m=>decide (m.code.length≤4096∧m.handlers.length≤64∧m.frames.length≤256)&&m.frames.all fun f=>decide (f.locals.length≤64∧f.stack.length≤64)
def mimK (c:Cls) (pool:List Cst):Img:=
 let p0:=if pool=[] then [cst0] else pool
 let t:=pclK p0 c.name
 let s:List Cst×Nat:=if c.super=[] then (t.1,0) else pclK t.1 c.super
 let i:=rowK mifK s.1 c.ifaces
 let f:=rowK mflK i.1 c.fields
 let m:=rowK mmtK f.1 c.methods
 ⟨0,52,m.1,c.access,t.2,s.2,i.2,f.2,m.2,[]⟩
def makeK (c:Cls) (pool:List Cst):Option Img:=if fitsK c pool=true∧ofP (mimK c pool)=some c then some (mimK c pool) else none
theorem X6g {α β:Type} {f:List Cst→α→List Cst×List β} {Q:β→Prop} (hf:∀P x,∀y∈(f P x).2,Q y):∀(l:List α) (P:List Cst),∀y∈(rowK f P l).2,Q y:=by
 intro l
 induction l with
 | nil=>intro P y hy;cases hy
 | cons x r ih=>
  intro P y hy;rcases Z41.1 hy with e | e
  ·exact hf P x y e
  ·exact ih _ y e
theorem X6v (c:Cls) (pool:List Cst):(mimK c pool).attrs=[]∧(∀x∈(mimK c pool).fields,x.attrs.length≤1)∧∀x∈(mimK c pool).methods,x.attrs.length≤1:=by
 refine⟨rfl,X6g (fun P f y hy=>?_) _ _,X6g (fun P m y hy=>?_) _ _⟩
 ·unfold mflK at hy
  dsimp only at hy
  split at hy
  ·rcases Z23.1 hy with e | e
   ·subst e;simp
   ·cases e
  ·rcases Z23.1 hy with e | e
   ·subst e;simp
   ·cases e
 ·unfold mmtK at hy
  dsimp only at hy
  split at hy
  ·rcases Z23.1 hy with e | e
   ·subst e;simp
   ·cases e
  ·rcases Z23.1 hy with e | e
   ·subst e;simp
   ·cases e
theorem X3e {c:Cls} {pool:List Cst} {m:Img} (h:makeK c pool=some m):m=mimK c pool∧fitsK c pool=true∧ofP m=some c:=by
 unfold makeK at h
 split at h
 ·rename_i h1
  injection h with h
  subst h;exact⟨rfl,h1.1,h1.2⟩
 ·cases h
def exC:Cls:=⟨33,[65],objN,[],[],[]⟩
theorem Y0j:(makeK exC []).isSome=true∧(mimK exC []).pool.length=5∧((mimK exC []).pool[4]?).map (·.tag)=some 7:=⟨by decide +kernel,by decide +kernel,by decide +kernel⟩
def At (b:List UInt8) (p:Nat) (l:List UInt8):Prop:=(b.drop p).take l.length=l
theorem At.app {b x y:List UInt8} {p:Nat} (h:At b p (x++y)):At b p x∧At b (p+x.length) y:=by
 unfold At at h ⊢;rw[Z09,List.take_add]at h;have h1:((b.drop p).take x.length).length≤x.length:=by rw[Z29];omega
 have hl:=congrArg List.length h;simp only[Z09,Z29,List.length_drop]at hl;rw[List.drop_drop]at h;exact List.append_inj h (by simp only[Z29,List.length_drop];omega)
theorem At.join {b x y:List UInt8} {p:Nat} (h:At b p x) (k:At b (p+x.length) y):At b p (x++y):=by
 unfold At at *;rw[Z09,List.take_add,h,List.drop_drop,k]
open Go.RowKit
structure LawP {α:Type} (P:Py α) (W:α→List UInt8) (V:α→Prop):Prop where
  fwd:∀b p a,V a→At b p (W a)→p+(W a).length≤b.length→P b p = .ok (a,p+(W a).length)
  bwd:∀b p a p',p≤b.length→P b p = .ok (a,p')→V a∧At b p (W a)∧p'=p+(W a).length∧p'≤b.length
  cut:∀b k p a p',p≤k→k≤b.length→P b p = .ok (a,p')→k<p'→P (b.take k) p = .err 2
theorem Y3v {α β:Type} {x:Rz α} {f:α→Rz β} {r:β} (h:x.bind f = .ok r):∃a,x = .ok a∧f a = .ok r:=by
  cases x with
  | ok a=>exact⟨a,rfl,h⟩
  | err e=>cases h
theorem W8t {b l:List UInt8} {p k:Nat} (h:At b p l) (hk:p+l.length≤k):At (b.take k) p l:=by
  unfold At at *;rw[List.drop_take,List.take_take,show min l.length (k-p)=l.length by omega];exact h
section
variable {α β:Type} {A:Py α} {WA:α→List UInt8} {VA:α→Prop}
theorem LawP.ret (c:α):LawP (retP c) (fun _=>[]) (fun a=>a=c):=
  ⟨fun b p a h _ _=>by subst h;rfl,fun b p a p' hp h=>by injection h with h;injection h with h1 h2;exact⟨h1.symm,rfl,by simpa using h2.symm,by omega⟩,
   fun b k p a p' hp _ h hk=>by injection h with h;injection h with h1 h2;omega⟩
theorem LawP.fail (e:Int) (W:α→List UInt8):LawP (failP e) W (fun _=>False):=
  ⟨fun _ _ _ h=>h.elim,fun _ _ _ _ _ h=>(by cases h),fun _ _ _ _ _ _ _ h=>(by cases h)⟩
theorem LawP.num {n:Nat} (h8:n≤8):LawP (rdN n) (fun v=>beB n (v:Int)) (fun v=>v<256 ^ n):=by
  have h64:256 ^ n≤18446744073709551616:=by
    have:=Nat.pow_le_pow_right (n:=256) (by omega) h8
    have h3:=pow8;omega
  refine⟨fun b p a ha h hb=>?_,fun b p a p' hp h=>?_,fun b k p a p' hp hk h hl=>?_⟩
  · unfold At at h
    rw[beB_len]at h hb ⊢;unfold rdN;rw[if_pos hb,h,W6l ha (by omega)]
  · unfold rdN at h
    split at h
    · injection h with h;injection h with h1 h2
      subst h1;subst h2;have hl:((b.drop p).take n).length=n:=by rw[Z29,List.length_drop];omega
      have h9:=W8m ((b.drop p).take n) (by omega);rw[hl]at h9;refine⟨?_,?_,by rw[beB_len],by omega⟩
      · have:=X9x ((b.drop p).take n)
        rwa [hl]at this
      · unfold At
        rw[beB_len,h9]
    · cases h
  · unfold rdN at h ⊢
    split at h
    · injection h with h;injection h with h1 h2
      rw[if_neg (by rw[Z29];omega)]
    · cases h
theorem LawP.bytes (n:Nat):LawP (rdB n) (fun s=>s) (fun s=>s.length=n):=by
  refine⟨fun b p a ha h hb=>?_,fun b p a p' hp h=>?_,fun b k p a p' hp hk h hl=>?_⟩
  · unfold At at h
    subst ha;unfold rdB;rw[if_pos hb,h]
  · unfold rdB at h
    split at h
    · injection h with h;injection h with h1 h2
      subst h1;subst h2;have hl:((b.drop p).take n).length=n:=by rw[Z29,List.length_drop];omega
      exact⟨hl,by unfold At;rw[hl],by rw[hl],by omega⟩
    · cases h
  · unfold rdB at h ⊢
    split at h
    · injection h with h;injection h with h1 h2
      rw[if_neg (by rw[Z29];omega)]
    · cases h
theorem LawP.bind' {F:α→Py β} {WF:α→β→List UInt8} {VF:α→β→Prop} (g:β→α) (hA:LawP A WA VA) (hF:∀a,LawP (F a) (WF a) (VF a)) (hg:∀a c,VA a→VF a c→g c=a) :
    LawP (bindP A F) (fun c=>WA (g c)++WF (g c) c) (fun c=>VA (g c)∧VF (g c) c):=by
  refine⟨fun b p c hc h hb=>?_,fun b p c p' hp h=>?_,fun b k p c p' hp hk h hl=>?_⟩
  · obtain⟨h1,h2⟩:=h.app
    rw[Z09]at hb ⊢;have e1:=hA.fwd b p (g c) hc.1 h1 (by omega);have e2:=(hF (g c)).fwd b _ c hc.2 h2 (by omega);unfold bindP;rw[e1];show F (g c) b (p+(WA (g c)).length)=_;rw[e2,Nat.add_assoc]
  · obtain⟨⟨a,p1⟩,h1,h2⟩:=Y3v h
    obtain⟨v1,a1,q1,l1⟩:=hA.bwd b p a p1 hp h1;obtain⟨v2,a2,q2,l2⟩:=(hF a).bwd b p1 c p' l1 h2;have e:=hg a c v1 v2;rw[e];exact⟨⟨v1,v2⟩,a1.join (q1 ▸ a2),by rw[Z09];omega,l2⟩
  · obtain⟨⟨a,p1⟩,h1,h2⟩:=Y3v h
    obtain⟨v1,a1,q1,l1⟩:=hA.bwd b p a p1 (by omega) h1;unfold bindP;by_cases hk1:p1≤k
    · have e1:=hA.fwd (b.take k) p a v1 (W8t a1 (by omega)) (by rw[Z29];omega)
      rw[e1,←q1]
      exact(hF a).cut b k p1 c p' hk1 hk h2 hl
    · rw[hA.cut b k p a p1 hp hk h1 (by omega)];rfl
theorem LawP.bind {F:α→Py β} {WF:α→β→List UInt8} {VF:α→β→Prop} (g:β→α) (hA:LawP A WA VA) (hF:∀a,LawP (F a) (WF a) (VF a)) (hg:∀a c,VF a c→g c=a) :
    LawP (bindP A F) (fun c=>WA (g c)++WF (g c) c) (fun c=>VA (g c)∧VF (g c) c):=LawP.bind' g hA hF fun a c _ h=>hg a c h
theorem LawP.ite {c:Prop} [Decidable c] {B:Py α} {WB:α→List UInt8} {VB:α→Prop} (hA:LawP A WA VA) (hB:LawP B WB VB) :
    LawP (if c then A else B) (fun x=>if c then WA x else WB x) (fun x=>if c then VA x else VB x):=by
  by_cases h:c
  · simp only[if_pos h];exact hA
  · simp only[if_neg h];exact hB
theorem LawP.to {W:α→List UInt8} {V:α→Prop} (hA:LawP A WA VA) (hV:∀a,V a↔VA a) (hW:∀a,V a→W a=WA a):LawP A W V:=by
  refine⟨fun b p a ha h hb=>?_,fun b p a p' hp h=>?_,hA.cut⟩
  · rw[hW a ha]at h hb ⊢
    exact hA.fwd b p a ((hV a).1 ha) h hb
  · obtain⟨v,a1,q,l⟩:=hA.bwd b p a p' hp h
    have ha:=(hV a).2 v;rw[hW a ha];exact⟨ha,a1,q,l⟩
theorem LawP.rep [Inhabited α] (hA:LawP A WA VA):∀n,LawP (repP A n) (fun l=>l.flatMap WA) (fun l=>l.length=n∧∀x∈l,VA x):=by
  intro n
  induction n with
  | zero=>
    refine(LawP.ret ([]:List α)).to (fun l=>⟨fun h=>Z36 h.1,fun h=>by subst h;exact⟨rfl,fun x hx=>by cases hx⟩⟩) (fun l h=>?_)
    rw[Z36 h.1];rfl
  | succ n ih=>
    refine(LawP.bind (fun l:List α=>l.headD default) hA (fun x=>LawP.bind (fun l:List α=>l.tail) ih (fun r=>LawP.ret (x::r)) (fun r c hc=>by subst hc;rfl)) (fun x c hc=>by rw[hc.2];rfl)).to (fun l=>?_) (fun l h=>?_)
    · constructor
      · rintro⟨h1,h2⟩
        match l,h1 with
        | x::r,h1=>exact⟨h2 x List.mem_cons_self,⟨by simpa using h1,fun y hy=>h2 y (List.mem_cons_of_mem _ hy)⟩,rfl⟩
      · rintro⟨h1,⟨h2,h3⟩,h4⟩
        rw[h4];refine⟨by rw[Z11,h2],fun x hx=>?_⟩;rcases Z23.1 hx with e | e
        · subst e;exact h1
        · exact h3 x e
    · match l,h.1 with
      | x::r,_=>show (x::r).flatMap WA=WA x++(r.flatMap WA++[]);rw[Z14];rfl
end
instance:Inhabited Att:=⟨⟨0,[]⟩⟩
instance:Inhabited Mem:=⟨⟨0,0,0,[]⟩⟩
instance:Inhabited Cst:=⟨cst0⟩
theorem Y1a:LawP cntI (fun n=>beB 2 (n:Int)) (fun n=>n≤64):=by
  refine(LawP.bind (fun n:Nat=>n) (LawP.num (n:=2) (by omega)) (fun n=>LawP.ite (c:=64<n) (LawP.fail 24 (fun _=>[])) (LawP.ret n)) (fun a c h=>by split at h;exact h.elim;exact h)).to (fun n=>?_) (fun n h=>?_)
  · constructor
    · intro h;exact⟨by omega,by rw[if_neg (by omega)]⟩
    · rintro⟨_,h⟩
      split at h
      · exact h.elim
      · omega
  · show _=beB 2 (n:Int)++if 64<n then [] else []
    rw[if_neg (by omega),Z14]
def attV (x:Att):Prop:=0≤x.name∧x.name≤65535∧x.data.length<4294967296
theorem W7p:LawP attP attB attV:=by
  refine(LawP.bind (fun x:Att=>x.name.toNat) (LawP.num (n:=2) (by omega)) (fun nm=>LawP.bind (fun x:Att=>x.data.length) (LawP.num (n:=4) (by omega)) (fun sz=>LawP.bind (fun x:Att=>x.data) (LawP.bytes sz) (fun d=>LawP.ret (⟨nm,d⟩:Att)) (fun d c h=>by subst h;rfl)) (fun sz c h=>h.2 ▸ h.1)) (fun nm c h=>by rw[h.2.2];simp)).to (fun x=>?_) (fun x h=>?_)
  · constructor
    · rintro⟨h1,h2,h3⟩
      refine⟨by omega,by omega,rfl,?_⟩;show x=⟨((x.name.toNat:Nat):Int),x.data⟩;rw[Z26 h1]
    · rintro⟨h1,h2,_,h4⟩
      have h4:x=⟨((x.name.toNat:Nat):Int),x.data⟩:=h4;have h5:x.name=((x.name.toNat:Nat):Int):=congrArg Att.name h4;exact⟨by omega,by omega,by omega⟩
  · show attB x=beB 2 ((x.name.toNat:Nat):Int)++(beB 4 (x.data.length:Int)++(x.data++[]))
    rw[Z26 h.1,Z14];rfl
theorem X9w:LawP attsP attsB (fun l=>l.length≤64∧∀x∈l,attV x):=by
  refine(LawP.bind (fun l:List Att=>l.length) Y1a (fun n=>LawP.rep W7p n) (fun n c h=>h.1)).to (fun l=>?_) (fun l _=>rfl)
  exact⟨fun h=>⟨h.1,rfl,h.2⟩,fun h=>⟨h.1,h.2.2⟩⟩
def memV (x:Mem):Prop:=(0≤x.access∧x.access≤65535)∧(0≤x.name∧x.name≤65535)∧(0≤x.desc∧x.desc≤65535)∧x.attrs.length≤64∧∀y∈x.attrs,attV y
theorem W7s:LawP memP memB memV:=by
  refine(LawP.bind (fun x:Mem=>x.access.toNat) (LawP.num (n:=2) (by omega)) (fun ac=>LawP.bind (fun x:Mem=>x.name.toNat) (LawP.num (n:=2) (by omega)) (fun nm=>LawP.bind (fun x:Mem=>x.desc.toNat) (LawP.num (n:=2) (by omega)) (fun ds=>LawP.bind (fun x:Mem=>x.attrs) X9w (fun l=>LawP.ret (⟨ac,nm,ds,l⟩:Mem)) (fun l c h=>by subst h;rfl)) (fun ds c h=>by rw[h.2];simp)) (fun nm c h=>by rw[h.2.2];simp)) (fun ac c h=>by rw[h.2.2.2];simp)).to (fun x=>?_) (fun x h=>?_)
  · constructor
    · rintro⟨h1,h2,h3,h4⟩
      refine⟨by omega,by omega,by omega,h4,?_⟩;show x=⟨((x.access.toNat:Nat):Int),((x.name.toNat:Nat):Int),((x.desc.toNat:Nat):Int),x.attrs⟩;rw[Z26 h1.1,Z26 h2.1,Z26 h3.1]
    · rintro⟨h1,h2,h3,h4,h5⟩
      have h5:x=⟨((x.access.toNat:Nat):Int),((x.name.toNat:Nat):Int),((x.desc.toNat:Nat):Int),x.attrs⟩:=h5;have e1:=congrArg Mem.access h5;have e2:=congrArg Mem.name h5;have e3:=congrArg Mem.desc h5;simp only at e1 e2 e3;exact⟨by omega,by omega,by omega,h4⟩
  · show memB x=beB 2 ((x.access.toNat:Nat):Int)++(beB 2 ((x.name.toNat:Nat):Int)++(beB 2 ((x.desc.toNat:Nat):Int)++(attsB x.attrs++[])))
    rw[Z26 h.1.1,Z26 h.2.1.1,Z26 h.2.2.1.1,Z14];rfl
theorem Y0a:LawP memsP memsB (fun l=>l.length≤64∧∀x∈l,memV x):=by
  refine(LawP.bind (fun l:List Mem=>l.length) Y1a (fun n=>LawP.rep W7s n) (fun n c h=>h.1)).to (fun l=>?_) (fun l _=>rfl)
  exact⟨fun h=>⟨h.1,rfl,h.2⟩,fun h=>⟨h.1,h.2.2⟩⟩
theorem W5x:LawP ifP ifB (fun l=>l.length≤64∧∀x∈l,0≤x∧x≤65535):=by
  refine(LawP.bind (fun l:List Int=>l.length) Y1a (fun k=>LawP.bind (fun l:List Int=>l.map Int.toNat) (LawP.rep (LawP.num (n:=2) (by omega)) k) (fun l=>LawP.ret (l.map fun (x:Nat)=>(x:Int))) (fun l c h=>by rw[h,List.map_map];exact(List.map_congr_left (g:=id) fun x _=>Z30 x).trans (List.map_id l))) (fun k c h=>by rw[h.2,Z17];exact h.1.1)).to (fun l=>?_) (fun l h=>?_)
  · constructor
    · rintro⟨h1,h2⟩
      refine⟨h1,⟨by simp,fun x hx=>?_⟩,?_⟩
      · obtain⟨y,hy,rfl⟩:=List.mem_map.1 hx
        have:=h2 y hy
        omega
      · show l=(l.map Int.toNat).map fun (x:Nat)=>(x:Int)
        rw[List.map_map]
        refine(List.map_id l).symm.trans (List.map_congr_left fun x hx=>?_)
        have:=h2 x hx
        exact(Z26 this.1).symm
    · rintro⟨h1,⟨h2,h3⟩,h4⟩
      refine⟨h1,fun x hx=>?_⟩;have h4:l=(l.map Int.toNat).map fun (x:Nat)=>(x:Int):=h4;rw[h4]at hx;obtain⟨y,hy,rfl⟩:=List.mem_map.1 hx
      have:=h3 y hy
      omega
  · show ifB l=beB 2 (l.length:Int)++((l.map Int.toNat).flatMap (fun (v:Nat)=>beB 2 (v:Int))++[])
    rw[Z14];unfold ifB
    congr 1
    rw[List.flatMap_map]
    have:∀l:List Int,(∀x∈l,0≤x∧x≤65535)→l.flatMap (beB 2)=l.flatMap fun x=>beB 2 ((x.toNat:Nat):Int):=by
      intro l
      induction l with
      | nil=>intro _;rfl
      | cons x r ih=>intro h;rw[Z27,Z27,ih (fun y hy=>h y (List.mem_cons_of_mem _ hy)),Z26 (h x List.mem_cons_self).1]
    exact this l h.2
open Go.RowKit
theorem X1p (v:Int):leB 4 v=leB 4 (((v % 4294967296).toNat:Nat):Int):=by
 unfold leB;refine List.map_congr_left fun i hi=>?_;have hi:=Z39.1 hi;rw[←UInt8.toNat_inj,UInt8.toNat_ofNat',UInt8.toNat_ofNat']
 match i,hi with
 | 0,_=>simp only[Nat.pow_zero,Nat.div_one];omega
 | 1,_=>simp only[Nat.pow_one];omega
 | 2,_=>rw[show (256:Nat) ^ 2=65536 from rfl];omega
 | 3,_=>rw[show (256:Nat) ^ 3=16777216 from rfl];omega
theorem X0j (n:Nat) (v:Int):leB n v=leB n (((v % 18446744073709551616).toNat:Nat):Int):=by
 unfold leB;refine List.map_congr_left fun i _=>?_;rw[show ((((v % 18446744073709551616).toNat:Nat):Int) % 18446744073709551616).toNat=(v % 18446744073709551616).toNat by omega]
def cstV (c:Cst):Prop:=
 if c.tag=1 then uOk c.text=true∧c.text.length≤65535∧c=⟨1,0,0,0,c.text⟩
 else if c.tag=3 then -2147483648≤c.num∧c.num≤2147483647∧c=⟨3,0,0,c.num,[]⟩
 else if c.tag=5 then -9223372036854775808≤c.num∧c.num≤9223372036854775807∧c=⟨5,0,0,c.num,[]⟩
 else if c.tag=7∨c.tag=8 then (0≤c.a∧c.a≤65535)∧c=⟨c.tag,c.a,0,0,[]⟩
 else (c.tag=9∨c.tag=10∨c.tag=11∨c.tag=12)∧(0≤c.a∧c.a≤65535)∧(0≤c.b∧c.b≤65535)∧c=⟨c.tag,c.a,c.b,0,[]⟩
theorem W8c:LawP (bindP (rdN 2) fun n=>bindP (rdB n) fun s=>if uOk s=true then retP (⟨1,0,0,0,s⟩:Cst) else failP 23) (fun c=>beB 2 (c.text.length:Int)++c.text) (fun c=>uOk c.text=true∧c.text.length≤65535∧c=⟨1,0,0,0,c.text⟩):=by
 refine(LawP.bind (fun c:Cst=>c.text.length) (LawP.num (n:=2) (by omega)) (fun n=>LawP.bind (fun c:Cst=>c.text) (LawP.bytes n) (fun s=>LawP.ite (c:=uOk s=true) (LawP.ret (⟨1,0,0,0,s⟩:Cst)) (LawP.fail 23 (fun _=>[]))) (fun s c h=>by split at h;(subst h;rfl);exact h.elim)) (fun n c h=>h.1)).to (fun c=>?_) (fun c h=>?_)
 ·constructor
  ·rintro⟨h1,h2,h3⟩;exact⟨by omega,rfl,by rw[if_pos h1];exact h3⟩
  ·rintro⟨h1,_,h2⟩
   split at h2
   ·rename_i h;exact⟨h,by omega,h2⟩
   ·exact h2.elim
 ·show _=beB 2 (c.text.length:Int)++(c.text++if uOk c.text=true then [] else [])
  rw[if_pos h.1,Z14]
theorem W8j:LawP (bindP (rdN 4) fun v=>retP (⟨3,0,0,sgn32 v,[]⟩:Cst)) (fun c=>beB 4 c.num) (fun c => -2147483648≤c.num∧c.num≤2147483647∧c=⟨3,0,0,c.num,[]⟩):=by
 refine(LawP.bind' (fun c:Cst=>(c.num % 4294967296).toNat) (LawP.num (n:=4) (by omega)) (fun v=>LawP.ret (⟨3,0,0,sgn32 v,[]⟩:Cst)) (fun v c hv h=>by subst h;show (sgn32 v % 4294967296).toNat=v;unfold sgn32;split <;> omega)).to (fun c=>?_) (fun c h=>?_)
 ·constructor
  ·rintro⟨h1,h2,h3⟩
   refine⟨by omega,?_⟩;show c=⟨3,0,0,sgn32 (c.num % 4294967296).toNat,[]⟩
   have:sgn32 (c.num % 4294967296).toNat=c.num:=by unfold sgn32;split <;> omega
   rw[this];exact h3
  ·rintro⟨h1,h2⟩
   have h2:c=⟨3,0,0,sgn32 (c.num % 4294967296).toNat,[]⟩:=h2;have e:=congrArg Cst.num h2;have h1:(c.num % 4294967296).toNat<256 ^ 4:=h1;have e:c.num=sgn32 (c.num % 4294967296).toNat:=e;have hb : -2147483648≤sgn32 (c.num % 4294967296).toNat∧sgn32 (c.num % 4294967296).toNat≤2147483647:=by unfold sgn32;split <;> omega
   exact⟨by omega,by omega,by rw[←e]at h2;exact h2⟩
 ·show beB 4 c.num=beB 4 (((c.num % 4294967296).toNat:Nat):Int)++[]
  rw[Z14];unfold beB;rw[X1p]
theorem W9u:LawP (bindP (rdN 8) fun v=>retP (⟨5,0,0,wrap64 (v:Int),[]⟩:Cst)) (fun c=>beB 8 c.num) (fun c => -9223372036854775808≤c.num∧c.num≤9223372036854775807∧c=⟨5,0,0,c.num,[]⟩):=by
 have p8:=pow8
 refine(LawP.bind' (fun c:Cst=>(c.num % 18446744073709551616).toNat) (LawP.num (n:=8) (by omega)) (fun v=>LawP.ret (⟨5,0,0,wrap64 (v:Int),[]⟩:Cst)) (fun v c hv h=>by subst h;show (wrap64 (v:Int) % 18446744073709551616).toNat=v;unfold wrap64;omega)).to (fun c=>?_) (fun c h=>?_)
 ·constructor
  ·rintro⟨h1,h2,h3⟩
   refine⟨by omega,?_⟩;show c=⟨5,0,0,wrap64 (((c.num % 18446744073709551616).toNat:Nat):Int),[]⟩
   have:wrap64 (((c.num % 18446744073709551616).toNat:Nat):Int)=c.num:=by unfold wrap64;omega
   rw[this];exact h3
  ·rintro⟨h1,h2⟩
   have h2:c=⟨5,0,0,wrap64 (((c.num % 18446744073709551616).toNat:Nat):Int),[]⟩:=h2;have e:=congrArg Cst.num h2;have e:c.num=wrap64 (((c.num % 18446744073709551616).toNat:Nat):Int):=e;have hb : -9223372036854775808≤wrap64 (((c.num % 18446744073709551616).toNat:Nat):Int)∧wrap64 (((c.num % 18446744073709551616).toNat:Nat):Int)≤9223372036854775807:=by unfold wrap64;omega
   exact⟨by omega,by omega,by rw[←e]at h2;exact h2⟩
 ·show beB 8 c.num=beB 8 (((c.num % 18446744073709551616).toNat:Nat):Int)++[]
  rw[Z14];unfold beB;rw[←X0j]
theorem X2g (t:Int):LawP (bindP (rdN 2) fun a=>retP (⟨t,a,0,0,[]⟩:Cst)) (fun c=>beB 2 c.a) (fun c=>(0≤c.a∧c.a≤65535)∧c=⟨t,c.a,0,0,[]⟩):=by
 refine(LawP.bind (fun c:Cst=>c.a.toNat) (LawP.num (n:=2) (by omega)) (fun a=>LawP.ret (⟨t,a,0,0,[]⟩:Cst)) (fun a c h=>by subst h;simp)).to (fun c=>?_) (fun c h=>?_)
 ·constructor
  ·rintro⟨h1,h2⟩
   refine⟨by omega,?_⟩;show c=⟨t,((c.a.toNat:Nat):Int),0,0,[]⟩;rw[Z26 h1.1];exact h2
  ·rintro⟨h1,h2⟩
   have h2:c=⟨t,((c.a.toNat:Nat):Int),0,0,[]⟩:=h2;have e:c.a=((c.a.toNat:Nat):Int):=congrArg Cst.a h2;exact⟨by omega,by rw[←e]at h2;exact h2⟩
 ·show beB 2 c.a=beB 2 ((c.a.toNat:Nat):Int)++[]
  rw[Z26 h.1.1,Z14]
theorem X1o (t:Int):LawP (bindP (rdN 2) fun a=>bindP (rdN 2) fun b=>retP (⟨t,a,b,0,[]⟩:Cst)) (fun c=>beB 2 c.a++beB 2 c.b) (fun c=>(0≤c.a∧c.a≤65535)∧(0≤c.b∧c.b≤65535)∧c=⟨t,c.a,c.b,0,[]⟩):=by
 refine(LawP.bind (fun c:Cst=>c.a.toNat) (LawP.num (n:=2) (by omega)) (fun a=>LawP.bind (fun c:Cst=>c.b.toNat) (LawP.num (n:=2) (by omega)) (fun b=>LawP.ret (⟨t,a,b,0,[]⟩:Cst)) (fun b c h=>by subst h;simp)) (fun a c h=>by rw[h.2];simp)).to (fun c=>?_) (fun c h=>?_)
 ·constructor
  ·rintro⟨h1,h2,h3⟩
   refine⟨by omega,by omega,?_⟩;show c=⟨t,((c.a.toNat:Nat):Int),((c.b.toNat:Nat):Int),0,[]⟩;rw[Z26 h1.1,Z26 h2.1];exact h3
  ·rintro⟨h1,h2,h3⟩
   have h3:c=⟨t,((c.a.toNat:Nat):Int),((c.b.toNat:Nat):Int),0,[]⟩:=h3;have e:c.a=((c.a.toNat:Nat):Int):=congrArg Cst.a h3;have e2:c.b=((c.b.toNat:Nat):Int):=congrArg Cst.b h3;exact⟨by omega,by omega,by rw[←e,←e2]at h3;exact h3⟩
 ·show beB 2 c.a++beB 2 c.b=beB 2 ((c.a.toNat:Nat):Int)++(beB 2 ((c.b.toNat:Nat):Int)++[])
  rw[Z26 h.1.1,Z26 h.2.1.1,Z14]
theorem W6n:LawP cstP cstB cstV:=by
 refine(LawP.bind (fun c:Cst=>c.tag.toNat) (LawP.num (n:=1) (by omega)) (fun t=>LawP.ite (c:=t=1) W8c (LawP.ite (c:=t=3) W8j (LawP.ite (c:=t=5) W9u (LawP.ite (c:=t=7∨t=8) (X2g t) (LawP.ite (c:=t=9∨t=10∨t=11∨t=12) (X1o t) (LawP.fail 24 (fun _=>[]))))))) (fun t c h=>?_)).to (fun c=>?_) (fun c h=>?_)
 ·split at h
  ·rename_i e;rw[h.2.2,e];rfl
  split at h
  ·rename_i e;rw[h.2.2,e];rfl
  split at h
  ·rename_i e;rw[h.2.2,e];rfl
  split at h
  ·rw[h.2];simp
  split at h
  ·rw[h.2.2];simp
  ·exact h.elim
 ·unfold cstV
  by_cases h1:c.tag=1
  ·have e:c.tag.toNat=1:=by omega
   rw[if_pos h1,e];exact⟨fun h=>⟨by decide,h⟩,fun h=>h.2⟩
  by_cases h3:c.tag=3
  ·have e:c.tag.toNat=3:=by omega
   rw[if_neg h1,if_pos h3,e];exact⟨fun h=>⟨by decide,h⟩,fun h=>h.2⟩
  by_cases h5:c.tag=5
  ·have e:c.tag.toNat=5:=by omega
   rw[if_neg h1,if_neg h3,if_pos h5,e];exact⟨fun h=>⟨by decide,h⟩,fun h=>h.2⟩
  rw[if_neg h1,if_neg h3,if_neg h5];by_cases h7:c.tag=7∨c.tag=8
  ·have e7:c.tag.toNat=7∨c.tag.toNat=8:=by omega
   have ec:((c.tag.toNat:Nat):Int)=c.tag:=(by omega);rw[if_pos h7,if_neg (by omega),if_neg (by omega),if_neg (by omega),if_pos e7,ec];exact⟨fun h=>⟨by omega,h⟩,fun h=>h.2⟩
  rw[if_neg h7];by_cases h9:c.tag=9∨c.tag=10∨c.tag=11∨c.tag=12
  ·have e9:c.tag.toNat=9∨c.tag.toNat=10∨c.tag.toNat=11∨c.tag.toNat=12:=by omega
   have ec:((c.tag.toNat:Nat):Int)=c.tag:=(by omega);rw[if_neg (by omega),if_neg (by omega),if_neg (by omega),if_neg (by omega),if_pos e9,ec];exact⟨fun h=>⟨by omega,h.2⟩,fun h=>⟨h9,h.2⟩⟩
  ·refine⟨fun h=>absurd h.1 h9,fun h=>?_⟩
   exfalso
   have h:=h.2;by_cases g1:c.tag.toNat=1
   ·omega
   by_cases g3:c.tag.toNat=3
   ·omega
   by_cases g5:c.tag.toNat=5
   ·omega
   rw[if_neg g1,if_neg g3,if_neg g5,if_neg (by omega),if_neg (by omega)]at h;exact h
 ·unfold cstV at h
  unfold cstB;show (if c.tag=0 then [] else _)=beB 1 ((c.tag.toNat:Nat):Int)++(if c.tag.toNat=1 then _ else if c.tag.toNat=3 then _ else if c.tag.toNat=5 then _ else if c.tag.toNat=7∨c.tag.toNat=8 then _ else if c.tag.toNat=9∨c.tag.toNat=10∨c.tag.toNat=11∨c.tag.toNat=12 then _ else [])
  have hpos:1≤c.tag:=by
   split at h
   ·omega
   split at h
   ·omega
   split at h
   ·omega
   split at h
   ·omega
   omega
  rw[if_neg (by omega),Z26 (by omega)]
  congr 1
  by_cases h1:c.tag=1
  ·rw[if_pos h1,if_pos (by omega)]
  rw[if_neg h1,if_neg (show ¬c.tag.toNat=1 by omega)];by_cases h3:c.tag=3
  ·rw[if_pos h3,if_pos (by omega)]
  rw[if_neg h3,if_neg (show ¬c.tag.toNat=3 by omega)];by_cases h5:c.tag=5
  ·rw[if_pos h5,if_pos (by omega)]
  rw[if_neg h5,if_neg (show ¬c.tag.toNat=5 by omega)];by_cases h7:c.tag=7∨c.tag=8
  ·rw[if_pos h7,if_pos (by omega)]
  rw[if_neg h1,if_neg h3,if_neg h5,if_neg h7]at h;rw[if_neg h7,if_neg (show ¬(c.tag.toNat=7∨c.tag.toNat=8) by omega),if_pos (by omega)]
inductive PoolV:List Cst→Prop
 | nil:PoolV []
 | one (c:Cst) (r:List Cst):cstV c→c.tag≠5→PoolV r→PoolV (c::r)
 | long (c:Cst) (r:List Cst):cstV c→c.tag=5→PoolV r→PoolV (c::cst0::r)
theorem X0x:∀f k,k≤f→LawP (poolP f k) (fun l=>l.flatMap cstB) (fun l=>l.length=k∧PoolV l):=by
 intro f
 induction f with
 | zero=>
  intro k hk;obtain rfl:k=0:=by omega
  refine(LawP.ret ([]:List Cst)).to (fun l=>⟨fun h=>Z36 h.1,fun h=>by subst h;exact⟨rfl,.nil⟩⟩) (fun l h=>?_)
  rw[Z36 h.1];rfl
 | succ f ih=>
  intro k hk;by_cases h0:k=0
  ·subst h0
   refine(show LawP (poolP (f+1) 0) (fun _=>[]) (fun a=>a=[]) from LawP.ret []).to (fun l=>⟨fun h=>Z36 h.1,fun h=>by subst h;exact⟨rfl,.nil⟩⟩) (fun l h=>?_)
   rw[Z36 h.1];rfl
  ·have hu:poolP (f+1) k=bindP cstP fun c=>if c.tag=5 then (if k=1 then failP 24 else bindP (poolP f (k-2)) fun r=>retP (c::cst0::r)) else bindP (poolP f (k-1)) fun r=>retP (c::r):=by
    rw[poolP,if_neg h0]
   rw[hu];have L5:=fun c:Cst=>LawP.bind (fun l:List Cst=>l.tail.tail) (ih (k-2) (by omega)) (fun r=>LawP.ret (c::cst0::r)) (fun r l h=>by subst h;rfl);have L1:=fun c:Cst=>LawP.bind (fun l:List Cst=>l.tail) (ih (k-1) (by omega)) (fun r=>LawP.ret (c::r)) (fun r l h=>by subst h;rfl)
   refine(LawP.bind (fun l:List Cst=>l.headD default) W6n (fun c=>LawP.ite (c:=c.tag=5) (LawP.ite (c:=k=1) (LawP.fail 24 (fun _=>[])) (L5 c)) (L1 c)) (fun c l h=>?_)).to (fun l=>?_) (fun l h=>?_)
   ·split at h
    ·split at h
     ·exact h.elim
     ·rw[h.2];rfl
    ·rw[h.2];rfl
   ·constructor
    ·rintro⟨h1,h2⟩
     cases h2 with
     | nil=>exact absurd h1.symm h0
     | one c r hc h5 hr=>refine⟨hc,?_⟩;rw[if_neg (show ¬((c::r).headD default).tag=5 from h5)];exact⟨⟨by simp at h1 ⊢;omega,hr⟩,rfl⟩
     | long c r hc h5 hr=>refine⟨hc,?_⟩;rw[if_pos (show ((c::cst0::r).headD default).tag=5 from h5),if_neg (by simp at h1;omega)];exact⟨⟨by simp at h1 ⊢;omega,hr⟩,rfl⟩
    ·rintro⟨h1,h2⟩
     by_cases h5:(l.headD default).tag=5
     ·rw[if_pos h5]at h2
      by_cases hk1:k=1
      ·rw[if_pos hk1]at h2;exact h2.elim
      ·rw[if_neg hk1]at h2
       obtain⟨⟨e1,e2⟩,e3⟩:=h2;have e3:l=l.headD default::cst0::l.tail.tail:=e3;have e1:l.tail.tail.length=k-2:=e1;rw[e3];exact⟨by simp only[Z11];omega,.long _ _ h1 h5 e2⟩
     ·rw[if_neg h5]at h2
      obtain⟨⟨e1,e2⟩,e3⟩:=h2;have e3:l=l.headD default::l.tail:=e3;have e1:l.tail.length=k-1:=e1;rw[e3];exact⟨by simp only[Z11];omega,.one _ _ h1 h5 e2⟩
   ·cases h.2 with
    | nil=>exact absurd h.1.symm h0
    | one c r hc h5 hr=>show (c::r).flatMap cstB=cstB c++(if c.tag=5 then _ else r.flatMap cstB++[]);rw[if_neg h5,Z14];rfl
    | long c r hc h5 hr=>
     show (c::cst0::r).flatMap cstB=cstB c++(if c.tag=5 then (if k=1 then [] else r.flatMap cstB++[]) else _)
     have:=h.1
     simp at this;rw[if_pos h5,if_neg (by omega),Z14];rfl
open Go.RowKit
def imgV (m:Img):Prop:=(0≤m.minor∧m.minor≤65535)∧(45≤m.major∧m.major≤52)∧(∃pl,m.pool=cst0::pl∧pl.length<1024∧PoolV pl)∧(0≤m.access∧m.access≤65535)∧(0≤m.this∧m.this≤65535)∧(0≤m.super∧m.super≤65535) ∧
 (m.ifaces.length≤64∧∀x∈m.ifaces,0≤x∧x≤65535)∧(m.fields.length≤64∧∀x∈m.fields,memV x)∧(m.methods.length≤64∧∀x∈m.methods,memV x)∧(m.attrs.length≤64∧∀x∈m.attrs,attV x)
structure Tl where
 access:Nat
 this:Nat
 super:Nat
 ifaces:List Int
 fields:List Mem
 methods:List Mem
 attrs:List Att
def tlP:Py Tl:=bindP (rdN 2) fun ac=>bindP (rdN 2) fun th=>bindP (rdN 2) fun su=>bindP ifP fun ifs=>bindP memsP fun fs=>bindP memsP fun ms=>bindP attsP fun at_=>retP ⟨ac,th,su,ifs,fs,ms,at_⟩
def tlV (t:Tl):Prop:=t.access<65536∧t.this<65536∧t.super<65536∧(t.ifaces.length≤64∧∀x∈t.ifaces,0≤x∧x≤65535)∧(t.fields.length≤64∧∀x∈t.fields,memV x)∧(t.methods.length≤64∧∀x∈t.methods,memV x)∧(t.attrs.length≤64∧∀x∈t.attrs,attV x)
def tlB (t:Tl):List UInt8:=beB 2 t.access++(beB 2 t.this++(beB 2 t.super++(ifB t.ifaces++(memsB t.fields++(memsB t.methods++attsB t.attrs)))))
theorem W5d:LawP tlP tlB tlV:=by
 refine(LawP.bind (fun t:Tl=>t.access) (LawP.num (n:=2) (by omega)) (fun ac=>LawP.bind (fun t:Tl=>t.this) (LawP.num (n:=2) (by omega)) (fun th=>LawP.bind (fun t:Tl=>t.super) (LawP.num (n:=2) (by omega)) (fun su=>LawP.bind (fun t:Tl=>t.ifaces) W5x (fun ifs=>LawP.bind (fun t:Tl=>t.fields) Y0a (fun fs=>LawP.bind (fun t:Tl=>t.methods) Y0a (fun ms=>LawP.bind (fun t:Tl=>t.attrs) X9w (fun at_=>LawP.ret (⟨ac,th,su,ifs,fs,ms,at_⟩:Tl)) (fun a c h=>by subst h;rfl)) (fun a c h=>by rw[h.2])) (fun a c h=>by rw[h.2.2])) (fun a c h=>by rw[h.2.2.2])) (fun a c h=>by rw[h.2.2.2.2])) (fun a c h=>by rw[h.2.2.2.2.2])) (fun a c h=>by rw[h.2.2.2.2.2.2])).to (fun t=>?_) (fun t h=>?_)
 ·constructor
  ·rintro⟨h1,h2,h3,h4,h5,h6,h7⟩;exact⟨h1,h2,h3,h4,h5,h6,h7,rfl⟩
  ·rintro⟨h1,h2,h3,h4,h5,h6,h7,_⟩;exact⟨h1,h2,h3,h4,h5,h6,h7⟩
 ·show tlB t=beB 2 (t.access:Int)++(beB 2 (t.this:Int)++(beB 2 (t.super:Int)++(ifB t.ifaces++(memsB t.fields++(memsB t.methods++(attsB t.attrs++[]))))))
  rw[Z14];rfl
def mkI (mi ma:Nat) (pl:List Cst) (t:Tl):Img:=⟨mi,ma,cst0::pl,t.access,t.this,t.super,t.ifaces,t.fields,t.methods,t.attrs⟩
theorem Y0n {α β γ:Type} (A:Py α) (F:α→Py β) (G:β→Py γ):bindP (bindP A F) G=bindP A fun a=>bindP (F a) G:=by
 funext b p
 unfold bindP;cases A b p <;> rfl
theorem X2m {α β:Type} (a:α) (F:α→Py β):bindP (retP a) F=F a:=rfl
theorem W8r:imgP=bindP (rdN 4) fun g=>if g≠3405691582 then failP 24 else bindP (rdN 2) fun mi=>bindP (rdN 2) fun ma=>if ma<45∨52<ma then failP 24 else
 bindP (rdN 2) fun n=>if n<1∨1024<n then failP 24 else bindP (poolP n (n-1)) fun pl=>bindP tlP fun t=>retP (mkI mi ma pl t):=by
 unfold imgP tlP;simp only[Y0n,X2m]
 rfl
def tlOf (m:Img):Tl:=⟨m.access.toNat,m.this.toNat,m.super.toNat,m.ifaces,m.fields,m.methods,m.attrs⟩
theorem W8g (mi ma:Nat) (pl:List Cst) (t:Tl):tlOf (mkI mi ma pl t)=t:=by unfold tlOf mkI;simp
theorem X2h:LawP imgP imgB imgV:=by
 rw[W8r];have LP:∀n,LawP (poolP n (n-1)) (fun l=>l.flatMap cstB) (fun l=>l.length=n-1∧PoolV l):=fun n=>X0x n (n-1) (by omega)
 refine(LawP.bind (fun _:Img=>(3405691582:Nat)) (LawP.num (n:=4) (by omega)) (fun g=>LawP.ite (c:=g≠3405691582) (LawP.fail 24 (fun _=>[])) (LawP.bind (fun m:Img=>m.minor.toNat) (LawP.num (n:=2) (by omega)) (fun mi=>LawP.bind (fun m:Img=>m.major.toNat) (LawP.num (n:=2) (by omega)) (fun ma=>LawP.ite (c:=ma<45∨52<ma) (LawP.fail 24 (fun _=>[]))
  (LawP.bind (fun m:Img=>m.pool.length) (LawP.num (n:=2) (by omega)) (fun n=>LawP.ite (c:=n<1∨1024<n) (LawP.fail 24 (fun _=>[])) (LawP.bind (fun m:Img=>m.pool.tail) (LP n) (fun pl=>LawP.bind tlOf W5d (fun t=>LawP.ret (mkI mi ma pl t)) (fun t c h=>by subst h;exact W8g _ _ _ _)) (fun pl c h=>by rw[h.2];rfl))) (fun n c h=>?_))) (fun ma c h=>?_)) (fun mi c h=>?_))) (fun g c h=>?_)).to (fun m=>?_) (fun m h=>?_)
 ·split at h
  ·exact h.elim
  ·rename_i hn
   obtain⟨⟨h1,_⟩,_,h3⟩:=h;rw[h3];show (c.pool.tail).length+1=n;omega
 ·split at h
  ·exact h.elim
  ·obtain⟨_,h⟩:=h
   split at h
   ·exact h.elim
   ·rw[h.2.2];simp [mkI]
 ·obtain⟨_,h⟩:=h
  split at h
  ·exact h.elim
  ·obtain⟨_,h⟩:=h
   split at h
   ·exact h.elim
   ·rw[h.2.2];simp [mkI]
 ·split at h
  ·exact h.elim
  ·rename_i hg;omega
 ·constructor
  ·rintro⟨h1,h2,⟨pl,hp,hpl,hpv⟩,h3,h4,h5,h6,h7,h8,h9⟩
   refine⟨by decide,?_⟩;rw[if_neg (by decide)];refine⟨by omega,by omega,?_⟩;rw[if_neg (by omega)];have hpl2:m.pool.length=pl.length+1:=by rw[hp];rfl
   refine⟨by omega,?_⟩;rw[if_neg (by omega)];have ht:m.pool.tail=pl:=by rw[hp];rfl
   refine⟨⟨by rw[ht];omega,by rw[ht];exact hpv⟩,⟨?_,?_⟩⟩
   ·exact⟨by show m.access.toNat<65536;omega,by show m.this.toNat<65536;omega,by show m.super.toNat<65536;omega,h6,h7,h8,h9⟩
   ·show m=mkI m.minor.toNat m.major.toNat m.pool.tail (tlOf m)
    unfold mkI tlOf;rw[ht,←hp,Z26 h1.1,Z26 (by omega),Z26 h3.1,Z26 h4.1,Z26 h5.1]
  ·rintro⟨_,h⟩
   rw[if_neg (by decide)]at h;obtain⟨g1,g2,h⟩:=h
   split at h
   ·exact h.elim
   rename_i hma;obtain⟨g3,h⟩:=h
   split at h
   ·exact h.elim
   rename_i hn;obtain⟨⟨e1,e2⟩,⟨t1,t2,t3,t4,t5,t6,t7⟩,e3⟩:=h;have e3:m=mkI m.minor.toNat m.major.toNat m.pool.tail (tlOf m):=e3;have b1:m.minor=((m.minor.toNat:Nat):Int):=congrArg Img.minor e3;have b2:m.major=((m.major.toNat:Nat):Int):=congrArg Img.major e3;have b3:m.access=((m.access.toNat:Nat):Int):=congrArg Img.access e3;have b4:m.this=((m.this.toNat:Nat):Int):=congrArg Img.this e3;have b5:m.super=((m.super.toNat:Nat):Int):=congrArg Img.super e3;have b6:m.pool=cst0::m.pool.tail:=congrArg Img.pool e3;have t1:m.access.toNat<65536:=t1;have t2:m.this.toNat<65536:=t2;have t3:m.super.toNat<65536:=t3;exact⟨by omega,by omega,⟨m.pool.tail,b6,by omega,e2⟩,by omega,by omega,by omega,t4,t5,t6,t7⟩
 ·obtain⟨h1,h2,⟨pl,hp,hpl,hpv⟩,h3,h4,h5,_⟩:=h
  show imgB m=beB 4 3405691582++(if (3405691582:Nat)≠3405691582 then [] else beB 2 ((m.minor.toNat:Nat):Int)++(beB 2 ((m.major.toNat:Nat):Int)++(if m.major.toNat<45∨52<m.major.toNat then [] else
   beB 2 (m.pool.length:Int)++(if m.pool.length<1∨1024<m.pool.length then [] else m.pool.tail.flatMap cstB++(tlB (tlOf m)++[])))))
  have hpl2:m.pool.length=pl.length+1:=by rw[hp];rfl
  rw[if_neg (by decide),if_neg (by omega),if_neg (by omega),Z14,Z26 h1.1,Z26 (by omega)];unfold imgB tlB tlOf;rw[Z26 h3.1,Z26 h4.1,Z26 h5.1];have hf:m.pool.flatMap cstB=m.pool.tail.flatMap cstB:=by rw[hp];rfl
  rw[hf]
theorem X8s {pool:List Cst} (h:rightsP pool=true) {i:Nat} {c:Cst} (hc:pool[i]? = some c):rightP pool i c=true:=by
 unfold rightsP at h;rw[Z31]at h
 have:=h i (Z39.2 (Z24.1 hc).1)
 rw[hc]at this;exact this
theorem Y4o {pool:List Cst} {i:Nat} {c:Cst} (h:rightP pool i c=true) (h0:c.tag=0):(i=0∨(pool[i-1]?).map (·.tag)=some 5)∧c=cst0:=by
 unfold rightP at h;rw[if_pos h0,decide_eq_true_eq]at h;exact h
theorem W9v {b:List UInt8} {m:Img} (h:parseP b = .ok m):b.length≤32768∧holdsP m=true∧imgB m=b∧imgV m∧imgP b 0 = .ok (m,b.length):=by
 unfold parseP at h
 split at h
 ·cases h
 rename_i h1;obtain⟨⟨x,p⟩,e1,e2⟩:=Y3v h;have e2:(if p≠b.length∨holdsP x=false then Rz.err 24 else .ok x) = .ok m:=e2
 split at e2
 ·cases e2
 rename_i h2;injection e2 with e2
 subst e2;obtain⟨v,a,q,l⟩:=X2h.bwd b 0 x p (Z35 _) e1;have hp:p=b.length:=(by omega);refine⟨by omega,by have:¬holdsP x=false:=fun e=>h2 (.inr e);simpa using this,?_,v,by rw[←hp];exact e1⟩;unfold At at a;rw[List.drop_zero]at a;have hlen:(imgB x).length=b.length:=(by omega);rw[hlen,List.take_length]at a;exact a.symm
def exC2:Cls:=⟨560,[65],objN,[],[],[]⟩
def exC3:Cls:=⟨33,[65],objN,[],[],[⟨0,[102],[40,41,86],false,0,0,[],[],[]⟩]⟩
theorem W9x:makeK exC2 []=none:=by
 have h:(makeK exC2 []).isNone=true:=by decide +kernel
 rwa [Option.isNone_iff_eq_none]at h
theorem X0b:makeK exC3 []=none:=by
 have h:(makeK exC3 []).isNone=true:=by decide +kernel
 rwa [Option.isNone_iff_eq_none]at h
theorem X9c:makeK exC []=some (mimK exC [])∧ofP (mimK exC [])=some exC:=by
 have h:=Y0j.1;unfold makeK at h ⊢;by_cases c:fitsK exC []=true∧ofP (mimK exC [])=some exC
 ·rw[if_pos c];exact⟨rfl,c.2⟩
 ·rw[if_neg c]at h;cases h
theorem X1l:parseP [] = .err 2:=by rfl
open Go.RowKit
structure Cels {α:Type} (fC:α→List Value) (sz:Nat):Prop where
 len:∀x,(fC x).length=sz
 one:∀x,∀u∈fC x,u.oneCell'=true
 pos:0<sz
def RS {α:Type} (fC:α→List Value) (w:World) (B:Nat) (A:Option Addr) (l:List α):Prop:=Rd w B A (l.flatMap fC)
def OwS {α:Type} (fC:α→List Value) (sz:Nat) (w:World) (base:Nat) (e:TypeId) (v:Value) (l:List α):Prop:=w.ownsRow base e sz v l.length (l.flatMap fC)
section
variable {α:Type} {fC:α→List Value} {sz:Nat} {w w':World} {B B':Nat} {A:Option Addr} {l:List α} {base:Nat} {e:TypeId} {v:Value}
theorem Cels.all (h:Cels fC sz) (l:List α):(l.flatMap fC).length=l.length*sz:=by
 induction l with
 | nil=>simp
 | cons a r ih=>rw[Z27,Z09,ih,h.len,Z11,Nat.add_mul,Nat.one_mul,Nat.add_comm]
theorem Cels.ones (h:Cels fC sz) (l:List α):∀u∈l.flatMap fC,u.oneCell'=true:=by
 intro u hu;obtain⟨x,_,hx⟩:=List.mem_flatMap.1 hu;exact h.one x u hx
theorem Cels.get (h:Cels fC sz) {l:List α} {k j:Nat} {x:α} {u:Value} (hx:l[k]? = some x) (hu:(fC x)[j]? = some u):(l.flatMap fC)[k*sz+j]? = some u:=by
 induction l generalizing k with
 | nil=>simp at hx
 | cons a r ih=>
  have hj:j<sz:=by rw[←h.len x];exact(Z24.1 hu).1
  rw[Z27];cases k with
  | zero=>simp at hx;subst hx;rw[Nat.zero_mul,Z22,List.getElem?_append_left (by rw[h.len];exact hj)];exact hu
  | succ k=>rw[List.getElem?_append_right (by rw[h.len,Nat.add_mul,Nat.one_mul];omega),h.len,show (k+1)*sz+j-sz=k*sz+j by rw[Nat.add_mul,Nat.one_mul];omega];exact ih (by simpa using hx)
theorem Cels.set (h:Cels fC sz) {l:List α} {k j:Nat} {x x':α} {u:Value} (hx:l[k]? = some x) (hj:j<sz) (hu:fC x'=(fC x).set j u):(l.flatMap fC).set (k*sz+j) u=(l.set k x').flatMap fC:=by
 induction l generalizing k with
 | nil=>simp at hx
 | cons a r ih=>
  rw[Z27];cases k with
  | zero=>simp at hx;subst hx;rw[Nat.zero_mul,Z22,List.set_append_left _ _ (by rw[h.len];exact hj),Z04,Z27,hu]
  | succ k=>rw[List.set_append_right _ _ (by rw[h.len,Nat.add_mul,Nat.one_mul];omega),h.len,show (k+1)*sz+j-sz=k*sz+j by rw[Nat.add_mul,Nat.one_mul];omega,Z05,Z27];rw[ih (by simpa using hx)]
theorem RS.nil:RS fC w B A []:=Rd.nil
theorem RS.below (h:RS fC w B A l) (hb:Below B' w w') (hB:B≤B'):RS fC w' B A l:=Rd.below h hb hB
theorem RS.more (h:RS fC w B A l) (hB:B≤B'):RS fC w B' A l:=Rd.more h hB
theorem RS.top (h:RS fC w B A l):RS fC w w.heap.size A l:=Rd.top h
theorem RS.step (h:RS fC w B A l) (hb:Below w.heap.size w w'):RS fC w' w'.heap.size A l:=Rd.step h hb
theorem RS.drewN (h:RS fC w B A l) (k:Nat):RS fC (w.drewN k) B A l:=h
theorem RS.at_ (h:RS fC w B A l) (hC:Cels fC sz) {k:Nat} (hk:k<l.length) :
  ∃ad x,A=some ad∧ad.block<B∧Hid (l[k]? = some x)∧(∀u,(fC x)[0]? = some u→w.cell? (ad.add (k*sz))=some u) ∧
   ∀j u,(fC x)[j+1]? = some u→w.cell? ⟨(ad.add (k*sz)).block,(ad.add (k*sz)).off+(j+1),none⟩=some u:=by
 have hx:l[k]? = some l[k]:=Z33 hk
 have hne:l.flatMap fC≠[]:=fun e=>by
  have:=hC.all l
  rw[e]at this
  have:=Nat.mul_pos (show 0<l.length by omega) hC.pos
  simp at *;omega
 obtain⟨ad,e,hb,hc⟩:=h hne;refine⟨ad,l[k],e,hb,hx,fun u hu=>?_,fun j u hu=>?_⟩
 ·exact hc _ _ (hC.get hx hu)
 ·rw[←X3k _ j,addadd];exact hc _ _ (hC.get hx hu)
theorem OwS.nil:OwS fC sz w base e (.slice none 0 0) []:=World.ownsRow_nil _ _ _ _
theorem OwS.alloc (h:OwS fC sz w base e v l) (o:Obj):OwS fC sz (w.alloc o) base e v l:=World.ownsRow.alloc h o
theorem OwS.drewN (h:OwS fC sz w base e v l) (k:Nat):OwS fC sz (w.drewN k) base e v l:=h
theorem OwS.kept (h:OwS fC sz w base e v l) {row:Option Nat} (hg:w.grownBy w' row) (hr:v.ownBlock=none∨v.ownBlock≠row):OwS fC sz w' base e v l:=World.ownsRow.kept h hg hr
theorem OwS.set_other (h:OwS fC sz w base e v l) {p:Addr} (hr:v.ownBlock≠some p.block) (u:Value):OwS fC sz (w.setCell p u) base e v l:=
 OwS.kept h (row:=some p.block) ⟨rfl,rfl,rfl,by simp [World.setCell],fun k _ hk=>Below.heap_setCell w p u k (fun e=>hk (by rw[e]))⟩ (.inr hr)
theorem OwS.step (h:OwS fC sz w base e v l) (hb:Below w.heap.size w w'):OwS fC sz w' base e v l:=
 OwS.kept h (X8v hb none) (by cases hv:v.ownBlock with
  | none=>exact .inl rfl
  | some g=>exact .inr (by simp))
theorem OwS.rd (h:OwS fC sz w base e v l):∃A c,v = .slice A l.length c∧RS fC w w.heap.size A l∧l.length≤c:=by
 rcases h.2 with⟨rfl,h0⟩ | ⟨g,cap,cur,rfl,hb,hh,hc,hm,r⟩
 ·have:l=[]:=Z36 h0
  subst this;exact⟨none,0,rfl,Rd.nil,Z00 _⟩
 ·exact⟨_,cap,rfl,Rd.own h,hc⟩
theorem OwS.blk (h:OwS fC sz w base e v l) {g:Nat} (hg:v.ownBlock=some g):base≤g∧g<w.heap.size:=World.ownsRow.lt h g hg
theorem OwS.form (h:OwS fC sz w base e v l) (hl:0<l.length):∃g c,v = .slice (some ⟨g,0,none⟩) l.length c∧base≤g∧g<w.heap.size:=World.ownsRow.form h hl
theorem OwS.cell {g n c:Nat} (h:OwS fC sz w base e (.slice (some ⟨g,0,none⟩) n c) l) (hC:Cels fC sz) {k j:Nat} {x:α} {u:Value} (hx:l[k]? = some x) (hu:(fC x)[j]? = some u):w.cell? ⟨g,k*sz+j,none⟩=some u:=by
 have:=World.ownsRow.cells h (g:=g) rfl _ u (hC.get hx hu)
 rwa [Addr.add_lit,Z22]at this
theorem OwS.len {A:Option Addr} {n c:Nat} (h:OwS fC sz w base e (.slice A n c) l):n=l.length:=by
 rcases h.2 with⟨h',h0⟩ | ⟨g',cap',cur,h',r⟩
 ·simp only[Value.slice.injEq]at h';omega
 ·simp only[Value.slice.injEq]at h';exact h'.2.1
theorem OwS.frz {g n c:Nat} (h:OwS fC sz w base e (.slice (some ⟨g,0,none⟩) n c) l) (j:Nat):w.frozen? ⟨g,j,none⟩=false:=by
 have hn:=h.len;subst hn;exact World.ownsRow.frozenAt h j
theorem OwS.set {g n c:Nat} (h:OwS fC sz w base e (.slice (some ⟨g,0,none⟩) n c) l) (hC:Cels fC sz) {k j:Nat} {x x':α} {u:Value} (hx:l[k]? = some x) (hj:j<sz) (hu:fC x'=(fC x).set j u) :
  OwS fC sz (w.setCell ⟨g,k*sz+j,none⟩ u) base e (.slice (some ⟨g,0,none⟩) n c) (l.set k x'):=by
 have hn:=h.len;subst hn
 have:=(World.ownsRow.stored h (k*sz+j) u).1
 unfold OwS;rw[List.length_set,←hC.set hx hj hu];exact this
end
theorem Y5f {B:Nat} {w:World} (h:B≤w.heap.size) (o:Obj):B≤(w.alloc o).heap.size:=by
 show B≤(w.heap.push o).size;rw[Array.size_push];omega
section
variable {P:Program} (w:World)
theorem Y9y {α:Type} {fC:α→List Value} {sz:Nat} (hC:Cels fC sz) {ops:Array Oper} {rest:List Oper} {o:Oper} {a:Act} {Q:Exit→Act→World→Prop} (hgd:o.guard=none) (s x:Operand) {t e:TypeId} {z:Value} {bytes:Nat}
  (ho:o.op = .call { callee := .builtin .append,args:=#[s,x],argTypes:=#[t,t] }) (hE:ETy P t e z sz bytes) (hby:0<bytes)
  (base:Nat) (v:Value) (l:List α) (hs:a.eval s=v) (hown:OwS fC sz w base e v l)
  (B:Nat) (A:Option Addr) (m c:Nat) (news:List α) (hx:a.eval x = .slice A m c) (hl:news.length=m) (hr:RS fC w B A news)
  (hn:(l.length+news.length)*bytes≤140737488355328) (hbase:base≤w.heap.size)
  (h:∀v' w',OwS fC sz w' base e v' (l++news)→w.grownBy w' v.ownBlock→(v'.ownBlock=v.ownBlock∨v'.ownBlock=some w.heap.size)→Below base w w'→wpList P ops Q rest (a.put o.dst v') w'):wpList P ops Q (o::rest) a w:=by
 obtain⟨i,hi,hz,hsz,hb⟩:=hE.info;subst hl;have hm:(l.length+news.length)*1≤(l.length+news.length)*bytes:=Nat.mul_le_mul (Z00 _) hby;refine Y4l w hgd s x t ho base e hE.sl hi hz hsz hb hE.cells hE.pos v l.length (l.flatMap fC) hs hown B A news.length c (news.flatMap fC) hx (hC.all news) hr (hC.ones _) (by unfold maxLen;omega) hn hbase ?_;intro v' w' h1 h2 h3 h4;exact h v' w' (by unfold OwS;rw[Z09,List.flatMap_append];exact h1) h2 h3 h4
theorem RS.new {α:Type} {fC:α→List Value} (w:World) (x:α) (cs:Array Value) (h:cs.toList=fC x) (e:TypeId) (fr:Nat×Nat):RS fC (w.alloc (.cells cs e fr)) (w.heap.size+1) (some ⟨w.heap.size,0,none⟩) [x]:=fun _=>
 ⟨_,rfl,Z38 _,fun i u hu=>by
  have e:(⟨w.heap.size,0,none⟩:Addr).add i=⟨w.heap.size,i,none⟩:=by unfold Addr.add;split <;> simp_all
  rw[e,World.cell?_alloc_mark,←Array.getElem?_toList,h]
  simpa using hu⟩
end
open Go.RowKit
structure Sl where
 A:Option Addr
 n:Nat
 c:Nat
 l:List UInt8
instance:Inhabited Sl:=⟨⟨none,0,0,[]⟩⟩
def slV (x:Sl):Value := .slice x.A x.n x.c
def SlB (w:World) (B:Nat) (x:Sl):Prop:=x.l.length=x.n∧x.n≤x.c∧(x.c:Int)≤9223372036854775807∧RB w B x.A x.l
theorem SlB.below {w w':World} {B B':Nat} {x:Sl} (h:SlB w B x) (hb:Below B' w w') (hB:B≤B'):SlB w' B x:=⟨h.1,h.2.1,h.2.2.1,h.2.2.2.below hb hB⟩
theorem SlB.more {w:World} {B B':Nat} {x:Sl} (h:SlB w B x) (hB:B≤B'):SlB w B' x:=⟨h.1,h.2.1,h.2.2.1,h.2.2.2.more hB⟩
open Go.RowKit
structure AtE where
 name:Int
 s:Sl
def AtE.p (x:AtE):Att:=⟨x.name,x.s.l⟩
def attC (x:AtE):List Value:=[.int .i64 x.name,.slice x.s.A x.s.n x.s.c]
theorem attCels:Cels attC 2:=⟨fun _=>rfl,fun x u hu=>by
 simp only[attC,Z23,Z43,or_false]at hu;rcases hu with rfl | rfl <;> rfl,by omega⟩
def RA (w:World) (B:Nat) (A:Option Addr) (L:List AtE):Prop:=RS attC w B A L∧∀x∈L,SlB w B x.s
structure MmE where
 access:Int
 name:Int
 desc:Int
 A:Option Addr
 n:Nat
 c:Nat
 L:List AtE
def MmE.p (x:MmE):Mem:=⟨x.access,x.name,x.desc,x.L.map AtE.p⟩
def memC (x:MmE):List Value:=[.int .i64 x.access,.int .i64 x.name,.int .i64 x.desc,.slice x.A x.n x.c]
theorem memCels:Cels memC 4:=⟨fun _=>rfl,fun x u hu=>by
 simp only[memC,Z23,Z43,or_false]at hu;rcases hu with rfl | rfl | rfl | rfl <;> rfl,by omega⟩
def MmB (w:World) (B:Nat) (x:MmE):Prop:=x.L.length=x.n∧x.n≤x.c∧(x.c:Int)≤9223372036854775807∧RA w B x.A x.L
def RM (w:World) (B:Nat) (A:Option Addr) (L:List MmE):Prop:=RS memC w B A L∧∀x∈L,MmB w B x
def cstC (x:Cst):List Value:=[.int .i64 x.tag,.int .i64 x.a,.int .i64 x.b,.int .i64 x.num,.string ⟨x.text.toArray⟩]
theorem cstCels:Cels cstC 5:=⟨fun _=>rfl,fun x u hu=>by
 simp only[cstC,Z23,Z43,or_false]at hu;rcases hu with rfl | rfl | rfl | rfl | rfl <;> rfl,by omega⟩
section
variable {w w':World} {B B':Nat} {A:Option Addr}
theorem RA.below {L:List AtE} (h:RA w B A L) (hb:Below B' w w') (hB:B≤B'):RA w' B A L:=⟨h.1.below hb hB,fun x hx=>(h.2 x hx).below hb hB⟩
theorem RA.more {L:List AtE} (h:RA w B A L) (hB:B≤B'):RA w B' A L:=⟨h.1.more hB,fun x hx=>(h.2 x hx).more hB⟩
theorem RA.nil:RA w B none []:=⟨RS.nil,fun x hx=>by cases hx⟩
theorem MmB.below {x:MmE} (h:MmB w B x) (hb:Below B' w w') (hB:B≤B'):MmB w' B x:=⟨h.1,h.2.1,h.2.2.1,h.2.2.2.below hb hB⟩
theorem MmB.more {x:MmE} (h:MmB w B x) (hB:B≤B'):MmB w B' x:=⟨h.1,h.2.1,h.2.2.1,h.2.2.2.more hB⟩
theorem RM.below {L:List MmE} (h:RM w B A L) (hb:Below B' w w') (hB:B≤B'):RM w' B A L:=⟨h.1.below hb hB,fun x hx=>(h.2 x hx).below hb hB⟩
theorem RM.more {L:List MmE} (h:RM w B A L) (hB:B≤B'):RM w B' A L:=⟨h.1.more hB,fun x hx=>(h.2 x hx).more hB⟩
end
structure ImE where
 minor:Int
 major:Int
 pA:Option Addr
 pn:Nat
 pc:Nat
 pool:List Cst
 access:Int
 this:Int
 super:Int
 iA:Option Addr
 i_n:Nat
 ic:Nat
 ifs:List Int
 fA:Option Addr
 fn:Nat
 fc:Nat
 fs:List MmE
 mA:Option Addr
 mn:Nat
 mc:Nat
 ms:List MmE
 aA:Option Addr
 an:Nat
 ac:Nat
 as_:List AtE
def ImE.p (x:ImE):Img:=⟨x.minor,x.major,x.pool,x.access,x.this,x.super,x.ifs,x.fs.map MmE.p,x.ms.map MmE.p,x.as_.map AtE.p⟩
def imC (x:ImE):Array Value:=#[.int .i64 x.minor,.int .i64 x.major,.slice x.pA x.pn x.pc,.int .i64 x.access,.int .i64 x.this,.int .i64 x.super,.slice x.iA x.i_n x.ic,.slice x.fA x.fn x.fc,.slice x.mA x.mn x.mc,.slice x.aA x.an x.ac]
structure RIm (w:World) (B:Nat) (x:ImE):Prop where
 pool:RS cstC w B x.pA x.pool
 pl:x.pool.length=x.pn∧x.pn≤x.pc∧(x.pc:Int)≤9223372036854775807
 ifs:RL iV w B x.iA x.ifs
 il:x.ifs.length=x.i_n∧x.i_n≤x.ic∧(x.ic:Int)≤9223372036854775807
 fs:RM w B x.fA x.fs
 fl:x.fs.length=x.fn∧x.fn≤x.fc∧(x.fc:Int)≤9223372036854775807
 ms:RM w B x.mA x.ms
 ml:x.ms.length=x.mn∧x.mn≤x.mc∧(x.mc:Int)≤9223372036854775807
 as_:RA w B x.aA x.as_
 al:x.as_.length=x.an∧x.an≤x.ac∧(x.ac:Int)≤9223372036854775807
section
variable {w w':World} {B B':Nat} {x:ImE}
theorem RIm.below (h:RIm w B x) (hb:Below B' w w') (hB:B≤B'):RIm w' B x:=⟨h.pool.below hb hB,h.pl,h.ifs.below hb hB,h.il,h.fs.below hb hB,h.fl,h.ms.below hb hB,h.ml,h.as_.below hb hB,h.al⟩
theorem RIm.more (h:RIm w B x) (hB:B≤B'):RIm w B' x:=⟨h.pool.more hB,h.pl,h.ifs.more hB,h.il,h.fs.more hB,h.fl,h.ms.more hB,h.ml,h.as_.more hB,h.al⟩
end
open Go.RowKit
def Apt (a b:Value):Prop:=a.ownBlock=none∨b.ownBlock=none∨a.ownBlock≠b.ownBlock
structure Tri {α:Type} (f:α→Value) (w:World) (base:Nat) (e:TypeId) (v1:Value) (l1:List α) (v2:Value) (l2:List α) (v3:Value) (l3:List α):Prop where
 o1:OwL f w base e v1 l1
 o2:OwL f w base e v2 l2
 o3:OwL f w base e v3 l3
 a12:Apt v1 v2
 a13:Apt v1 v3
 a23:Apt v2 v3
section
variable {α:Type} {f:α→Value} {w w':World} {base:Nat} {e:TypeId} {v1 v2 v3 v':Value} {l1 l2 l3 n:List α}
end
open Go.RowKit
structure Ch (w w':World) (S:Nat→Prop):Prop where
 os:w'.os=w.os
 tape:w'.tape=w.tape
 output:w'.output=w.output
 size:w.heap.size≤w'.heap.size
 same:∀k,k<w.heap.size→¬S k→w'.heap[k]? = w.heap[k]?
section
variable {a b c w w':World} {S S':Nat→Prop}
theorem Ch.refl (w:World):Ch w w S:=⟨rfl,rfl,rfl,Z00 _,fun _ _ _=>rfl⟩
theorem Ch.trans (h:Ch a b S) (k:Ch b c S') (hS:∀i,i<a.heap.size→S' i→S i):Ch a c S:=
 ⟨k.os.trans h.os,k.tape.trans h.tape,k.output.trans h.output,Z08 h.size k.size,fun i hi hn=>(k.same i (Z07 hi h.size) (fun h'=>hn (hS i hi h'))).trans (h.same i hi hn)⟩
theorem Ch.mono (h:Ch a b S) (hS:∀i,i<a.heap.size→S i→S' i):Ch a b S':=⟨h.os,h.tape,h.output,h.size,fun i hi hn=>h.same i hi (fun h'=>hn (hS i hi h'))⟩
theorem Ch.below {B:Nat} (h:Ch a b S) (hB:B≤a.heap.size) (hS:∀k,k<B→¬S k):Below B a b:=⟨h.os,h.tape,h.output,h.size,fun k hk=>h.same k (Z07 hk hB) (hS k hk)⟩
theorem Ch.of_below (h:Below a.heap.size a b):Ch a b S:=⟨h.os,h.tape,h.output,h.size,fun k hk _=>h.block k hk⟩
theorem Ch.of_grown {row:Option Nat} (h:a.grownBy b row) (hS:∀k,row=some k→S k):Ch a b S:=⟨h.os,h.tape,h.output,h.size,fun k hk hn=>h.block k hk (fun e=>hn (hS k e.symm))⟩
theorem Ch.drewN (h:Ch a b S) (n:Nat):Ch a (b.drewN n) S:=⟨h.os,h.tape,h.output,h.size,h.same⟩
theorem Ch.alloc (h:Ch a b S) (o:Obj):Ch a (b.alloc o) S:=⟨h.os,h.tape,h.output,Z08 h.size (by simp),fun k hk hn=>(Below.heap_alloc b o k (Z07 hk h.size)).trans (h.same k hk hn)⟩
theorem Ch.setCell (h:Ch a b S) {p:Addr} (hp:p.block<a.heap.size→S p.block) (u:Value):Ch a (b.setCell p u) S:=
 ⟨h.os,h.tape,h.output,by simpa [World.setCell] using h.size,fun k hk hn=>(Below.heap_setCell b p u k (fun e=>hn (by rw[e];exact hp (by omega)))).trans (h.same k hk hn)⟩
theorem OwL.own_same {α:Type} {f:α→Value} {base:Nat} {e:TypeId} {v:Value} {l:List α} (h:OwL f w base e v l) (hs:∀k,v.ownBlock=some k→w'.heap[k]? = w.heap[k]?):OwL f w' base e v l:=by
 refine⟨h.1,?_⟩;rcases h.2 with hn | ⟨g,cap,cur,rfl,hb,hgg,rest⟩
 ·exact .inl hn
 ·exact .inr ⟨g,cap,cur,rfl,hb,(hs g rfl).trans hgg,rest⟩
theorem OwL.ch {α:Type} {f:α→Value} {base:Nat} {e:TypeId} {v:Value} {l:List α} (h:OwL f w base e v l) (hc:Ch w w' S) (hS:∀k,v.ownBlock=some k→¬S k):OwL f w' base e v l:=
 h.own_same fun k hk=>hc.same k (World.ownsRow.lt h k hk).2 (hS k hk)
theorem Bk.ch {g:Nat} {t:TypeId} {cs:Array Value} (h:Bk w g t cs) (hc:Ch w w' S) (hS:¬S g):Bk w' g t cs:=(hc.same g h.lt hS).trans h
theorem Y9c {p:Addr} (h:w'.heap[p.block]? = w.heap[p.block]?):w'.cell? p=w.cell? p:=by
 unfold World.cell?;rw[h]
theorem Rd.ch {B:Nat} {A:Option Addr} {xs:List Value} (h:Rd w B A xs) (hc:Ch w w' S) (hB:B≤w.heap.size) (hS:∀ad,A=some ad→¬S ad.block):Rd w' B A xs:=fun hne=>by
 obtain⟨ad,e,hb,hx⟩:=h hne;refine⟨ad,e,hb,fun i u hu=>?_⟩;have e2:w'.cell? (ad.add i)=w.cell? (ad.add i):=Y9c (by rw[blk_add];exact hc.same _ (Z07 hb hB) (hS ad e));rw[e2];exact hx i u hu
theorem RL.ch {α:Type} {f:α→Value} {B:Nat} {A:Option Addr} {l:List α} (h:RL f w B A l) (hc:Ch w w' S) (hB:B≤w.heap.size) (hS:∀ad,A=some ad→¬S ad.block):RL f w' B A l:=Rd.ch h hc hB hS
def Rws (T E:TypeId) (w:World) (base g:Nat) (v:Value) (l:List UInt8):Prop:=Bk w g T #[v]∧OwB w base E v l
end
open Go.RowKit
def OwnN (w:World) (v v':Value):Prop:=v'.ownBlock=v.ownBlock∨∃b,v'.ownBlock=some b∧w.heap.size≤b
def Fow (v:Value) (k:Nat):Prop:=v.ownBlock=some k
section
variable {w wr w1 w5:World} {v vj v5:Value}
theorem OwnN.refl:OwnN w v v := .inl rfl
theorem OwnN.trans (h:OwnN w v vj) (hs:w.heap.size≤wr.heap.size) (k:OwnN wr vj v5):OwnN w v v5:=by
 rcases k with e | ⟨b,e,hb⟩
 ·rcases h with e2 | ⟨b,e2,hb⟩
  ·exact .inl (e.trans e2)
  ·exact .inr ⟨b,e.trans e2,hb⟩
 ·exact .inr ⟨b,e,by omega⟩
theorem X2f (HC:Ch w wr (Fow v)) (HJ:OwnN w v vj) (hb1:Below wr.heap.size wr w1) (hg5:w1.grownBy w5 vj.ownBlock) (hv5:v5.ownBlock=vj.ownBlock∨v5.ownBlock=some w1.heap.size):Ch w w5 (Fow v)∧OwnN w v v5:=by
 have hz:=HC.size;have hz1:=hb1.size;refine⟨(HC.trans (Ch.of_below (S:=fun _=>False) hb1) (fun _ _ h=>h.elim)).trans (Ch.of_grown (S:=fun k=>vj.ownBlock=some k) hg5 (fun k h=>h)) (fun i hi h=>?_),?_⟩
 ·rcases HJ with e | ⟨b,e,hb⟩
  ·exact e.symm.trans h
  ·rw[e]at h;injection h;omega
 ·rcases hv5 with e | e
  ·exact HJ.trans (wr:=w1) (by omega) (.inl e)
  ·exact .inr ⟨_,e,by omega⟩
end
open Go.RowKit
def Rx (w:World) (X:Nat→Prop) (A:Option Addr) (xs:List Value):Prop:=xs≠[]→∃ad,A=some ad∧X ad.block∧∀i u,xs[i]? = some u→w.cell? (ad.add i)=some u
def SlX (w:World) (X:Nat→Prop) (x:Sl):Prop:=x.l.length=x.n∧x.n≤x.c∧(x.c:Int)≤9223372036854775807∧Rx w X x.A (x.l.map bV)
section
variable {w w':World} {X Y:Nat→Prop} {A:Option Addr} {xs:List Value} {x:Sl} {v v':Value} {ps ns:List Sl} {B:Nat}
theorem Rx.step (h:Rx w X A xs) (hs:∀k,X k→w'.heap[k]? = w.heap[k]?) (hY:∀k,X k→Y k):Rx w' Y A xs:=fun hn=>by
 obtain⟨ad,e,hx,hc⟩:=h hn;exact⟨ad,e,hY _ hx,fun i u hu=>(Y9c (p:=ad.add i) (by rw[blk_add];exact hs _ hx)).trans (hc i u hu)⟩
theorem SlX.step (h:SlX w X x) (hs:∀k,X k→w'.heap[k]? = w.heap[k]?) (hY:∀k,X k→Y k):SlX w' Y x:=⟨h.1,h.2.1,h.2.2.1,h.2.2.2.step hs hY⟩
theorem SlX.slB (h:SlX w X x) (hX:∀k,X k→k<B):SlB w B x:=⟨h.1,h.2.1,h.2.2.1,fun hn=>by
 obtain⟨ad,e,hx,hc⟩:=h.2.2.2 hn;exact⟨ad,e,hX _ hx,hc⟩⟩
end
open Go.RowKit
def strQ (x:List UInt8):Value := .string ⟨x.toArray⟩
structure Sq (α:Type) where
 A:Option Addr
 n:Nat
 c:Nat
 l:List α
instance {α:Type}:Inhabited (Sq α):=⟨⟨none,0,0,[]⟩⟩
def Sq.v {α:Type} (x:Sq α):Value := .slice x.A x.n x.c
def sq0 {α:Type}:Sq α:=⟨none,0,0,[]⟩
def SqX {α:Type} (fC:α→List Value) (w:World) (X:Nat→Prop) (s:Sq α):Prop:=s.l.length=s.n∧s.n≤s.c∧(s.c:Int)≤9223372036854775807∧Rx w X s.A (s.l.flatMap fC)
section
variable {α:Type} {fC:α→List Value} {w w':World} {X Y:Nat→Prop} {s:Sq α} {B sz:Nat} {e:TypeId} {v:Value}
theorem SqX.step (h:SqX fC w X s) (hs:∀k,X k→w'.heap[k]? = w.heap[k]?) (hY:∀k,X k→Y k):SqX fC w' Y s:=⟨h.1,h.2.1,h.2.2.1,h.2.2.2.step hs hY⟩
theorem SqX.nil:SqX fC w X sq0:=⟨rfl,Z00 _,by show ((0:Nat):Int)≤_;omega,fun h=>absurd rfl h⟩
theorem SqX.rs (h:SqX fC w X s) (hX:∀k,X k→k<B):RS fC w B s.A s.l:=fun hn=>by
 obtain⟨ad,e,hx,hc⟩:=h.2.2.2 hn;exact⟨ad,e,hX _ hx,hc⟩
theorem SqX.own {l:List α} (h:OwS fC sz w B e v l) (hX:∀k,B≤k→k<w.heap.size→X k):∃s:Sq α,v=s.v∧s.l=l∧SqX fC w X s:=by
 have hh:=h;obtain⟨A,c,rfl,hr,hc⟩:=h.rd
 have hm:(c:Int)≤9223372036854775807:=by
  rcases hh.2 with⟨e1,h0⟩ | ⟨g,cap,cur,e1,_,_,_,hm,_⟩
  ·injection e1 with _ _ e3;omega
  ·injection e1 with _ _ e3;unfold maxLen at hm;omega
 refine⟨⟨A,_,c,l⟩,rfl,rfl,rfl,hc,hm,fun hn=>?_⟩;obtain⟨ad,e2,hx,hcl⟩:=hr hn;subst e2
 have hlo:=(World.ownsRow.lt hh ad.block (by
  rcases hh.2 with⟨e3,_⟩ | ⟨g,cap,cur,e3,_⟩
  ·injection e3 with e3 _ _;cases e3
  ·injection e3 with e3 _ _;injection e3 with e3;subst e3;rfl)).1
 exact⟨ad,rfl,hX _ hlo hx,hcl⟩
end
instance:Inhabited Vt:=⟨⟨0,[],0⟩⟩
instance:Inhabited Hnd:=⟨⟨0,0,0,[]⟩⟩
instance:Inhabited Fld:=⟨⟨0,[],[],0⟩⟩
def vtC (x:Vt):List Value:=[.int .i64 x.kind,strQ x.name,.int .i64 x.at_]
theorem vtCels:Cels vtC 3:=⟨fun _=>rfl,fun x u hu=>by
 simp only[vtC,Z23,Z43,or_false]at hu;rcases hu with rfl | rfl | rfl <;> rfl,by decide⟩
def hnC (x:Hnd):List Value:=[.int .i64 x.from_,.int .i64 x.to_,.int .i64 x.at_,strQ x.name]
theorem hnCels:Cels hnC 4:=⟨fun _=>rfl,fun x u hu=>by
 simp only[hnC,Z23,Z43,or_false]at hu;rcases hu with rfl | rfl | rfl | rfl <;> rfl,by decide⟩
def flC (x:Fld):List Value:=[.int .i64 x.access,strQ x.name,strQ x.desc,.int .i64 x.const]
theorem flCels:Cels flC 4:=⟨fun _=>rfl,fun x u hu=>by
 simp only[flC,Z23,Z43,or_false]at hu;rcases hu with rfl | rfl | rfl | rfl <;> rfl,by decide⟩
def txC (x:List UInt8):List Value:=[strQ x]
theorem txCels:Cels txC 1:=⟨fun _=>rfl,fun x u hu=>by
 simp only[txC,Z23,Z43,or_false]at hu;rcases hu with rfl;rfl,by decide⟩
structure FrE where
 tag:Int
 delta:Int
 l:Sq Vt
 s:Sq Vt
instance:Inhabited FrE:=⟨⟨0,0,sq0,sq0⟩⟩
def FrE.p (x:FrE):Frm:=⟨x.tag,x.delta,x.l.l,x.s.l⟩
def frC (x:FrE):List Value:=[.int .i64 x.tag,.int .i64 x.delta,x.l.v,x.s.v]
theorem frCels:Cels frC 4:=⟨fun _=>rfl,fun x u hu=>by
 simp only[frC,Z23,Z43,or_false]at hu;rcases hu with rfl | rfl | rfl | rfl <;> rfl,by decide⟩
structure FrX (w:World) (X:Nat→Prop) (x:FrE):Prop where
 l:SqX vtC w X x.l
 s:SqX vtC w X x.s
structure MtE where
 access:Int
 name:List UInt8
 desc:List UInt8
 there:Bool
 stack:Int
 locals:Int
 code:Sl
 hs:Sq Hnd
 fs:Sq FrE
instance:Inhabited MtE:=⟨⟨0,[],[],false,0,0,⟨none,0,0,[]⟩,sq0,sq0⟩⟩
def MtE.p (x:MtE):Mth:=⟨x.access,x.name,x.desc,x.there,x.stack,x.locals,x.code.l,x.hs.l,x.fs.l.map FrE.p⟩
def mtC (x:MtE):List Value:=[.int .i64 x.access,strQ x.name,strQ x.desc,.bool x.there,.int .i64 x.stack,.int .i64 x.locals,slV x.code,x.hs.v,x.fs.v]
theorem mtCels:Cels mtC 9:=⟨fun _=>rfl,fun x u hu=>by
 simp only[mtC,Z23,Z43,or_false]at hu;rcases hu with rfl | rfl | rfl | rfl | rfl | rfl | rfl | rfl | rfl <;> rfl,by decide⟩
structure MtX (w:World) (X:Nat→Prop) (x:MtE):Prop where
 code:SlX w X x.code
 hs:SqX hnC w X x.hs
 fs:SqX frC w X x.fs
 fr:∀f∈x.fs.l,FrX w X f
structure ClE where
 access:Int
 name:List UInt8
 super:List UInt8
 ifs:Sq (List UInt8)
 fls:Sq Fld
 mts:Sq MtE
 pool:Sq Cst
instance:Inhabited ClE:=⟨⟨0,[],[],sq0,sq0,sq0,sq0⟩⟩
def ClE.p (x:ClE):Cls:=⟨x.access,x.name,x.super,x.ifs.l,x.fls.l,x.mts.l.map MtE.p⟩
def clA (x:ClE):Array Value:=#[.int .i64 x.access,strQ x.name,strQ x.super,x.ifs.v,x.fls.v,x.mts.v,x.pool.v]
structure ClX (w:World) (X:Nat→Prop) (x:ClE):Prop where
 ifs:SqX txC w X x.ifs
 fls:SqX flC w X x.fls
 mts:SqX mtC w X x.mts
 mt:∀m∈x.mts.l,MtX w X m
 pool:SqX cstC w X x.pool
section
variable {w w':World} {X Y:Nat→Prop}
theorem FrX.step {x:FrE} (h:FrX w X x) (hs:∀k,X k→w'.heap[k]? = w.heap[k]?) (hY:∀k,X k→Y k):FrX w' Y x:=⟨h.l.step hs hY,h.s.step hs hY⟩
theorem MtX.step {x:MtE} (h:MtX w X x) (hs:∀k,X k→w'.heap[k]? = w.heap[k]?) (hY:∀k,X k→Y k):MtX w' Y x:=⟨h.code.step hs hY,h.hs.step hs hY,h.fs.step hs hY,fun f hf=>(h.fr f hf).step hs hY⟩
theorem ClX.step {x:ClE} (h:ClX w X x) (hs:∀k,X k→w'.heap[k]? = w.heap[k]?) (hY:∀k,X k→Y k):ClX w' Y x:=⟨h.ifs.step hs hY,h.fls.step hs hY,h.mts.step hs hY,fun m hm=>(h.mt m hm).step hs hY,h.pool.step hs hY⟩
end
def Bff (B:Nat) (w:World) (v:Value) (k:Nat):Prop:=B≤k∧k<w.heap.size∧v.ownBlock≠some k
structure OwX {α:Type} (fC:α→List Value) (sz:Nat) (P:World→(Nat→Prop)→α→Prop) (w:World) (B:Nat) (T:TypeId) (v:Value) (L:List α):Prop where
 own:OwS fC sz w B T v L
 sub:∀x∈L,P w (Bff B w v) x
section
variable {α:Type} {fC:α→List Value} {sz:Nat} {P:World→(Nat→Prop)→α→Prop} {w w':World} {B:Nat} {T:TypeId} {v v':Value} {L N:List α}
def StepX (P:World→(Nat→Prop)→α→Prop):Prop:=∀{w w':World} {X Y:Nat→Prop} {x:α},P w X x→(∀k,X k→w'.heap[k]? = w.heap[k]?)→(∀k,X k→Y k)→P w' Y x
theorem OwX.nil:OwX fC sz P w B T (.slice none 0 0) []:=⟨OwS.nil,fun x h=>by cases h⟩
theorem OwX.step (hP:StepX P) (h:OwX fC sz P w B T v L) (hb:Below w.heap.size w w'):OwX fC sz P w' B T v L:=
 ⟨h.own.step hb,fun x hx=>hP (h.sub x hx) (fun k hk=>hb.block k hk.2.1) (fun _ hk=>⟨hk.1,Z07 hk.2.1 hb.size,hk.2.2⟩)⟩
theorem OwX.app (hP:StepX P) (h:OwX fC sz P w B T v L) (hn:∀x∈N,P w (Bff B w v) x) (ho:OwS fC sz w' B T v' (L++N)) (hg:w.grownBy w' v.ownBlock) (hv:v'.ownBlock=v.ownBlock∨v'.ownBlock=some w.heap.size):OwX fC sz P w' B T v' (L++N):=
 ⟨ho,fun x hx=>by
  have h0:P w (Bff B w v) x:=by
   rcases Z41.1 hx with e | e
   ·exact h.sub x e
   ·exact hn x e
  exact hP h0 (fun k hk=>hg.block k hk.2.1 (fun e=>hk.2.2 e.symm)) (fun k hk=>⟨hk.1,Z07 hk.2.1 hg.size,by
   rcases hv with e | e
   ·rw[e];exact hk.2.2
   ·rw[e];intro e2;injection e2 with e2;have:=hk.2.1;omega⟩)⟩
end
theorem frStep:StepX FrX:=fun h hs hY=>h.step hs hY
theorem mtStep:StepX MtX:=fun h hs hY=>h.step hs hY
open Go.RowKit
def heldR (v:Value):Option (DataW Value×List MemPlace):=some (.held v,[])
def MapF (w:World) (P:Program) (k:TypeId) (b n:Nat) (F:Lit→Option Value):Prop:=
 ∃D:DataW Value,w.ownsMap P k heldR b n D∧∀kl,WideAt.IsKeyLit kl→(∀z,D.atKey kl z=((F kl).map DataW.held).getD z)∧Maps.has D kl=(F kl).isSome
section
variable {P:Program} {k:TypeId} {w w':World} {b n:Nat} {F:Lit→Option Value}
theorem MapF.made (w:World) (P:Program) (k:TypeId):MapF (w.alloc (.map #[] 0)) P k w.heap.size 0 (fun _=>none):=
 ⟨.map [],World.ownsMap_made w P k heldR,fun _ _=>⟨fun _=>rfl,rfl⟩⟩
theorem MapF.madeAt {g:Nat} (w:World) (P:Program) (k:TypeId) (hg:w.heap.size=g):MapF (w.alloc (.map #[] 0)) P k g 0 (fun _=>none):=by subst hg;exact MapF.made w P k
theorem MapF.lt (h:MapF w P k b n F):b<w.heap.size:=by obtain⟨D,h,_⟩:=h;exact h.lt
theorem MapF.grown (h:MapF w P k b n F) {row:Option Nat} (hg:w.grownBy w' row) (hne:some b≠row):MapF w' P k b n F:=by obtain⟨D,h,r⟩:=h;exact⟨D,h.kept hg hne,r⟩
theorem MapF.alloc (h:MapF w P k b n F) (o:Obj):MapF (w.alloc o) P k b n F:=by obtain⟨D,h,r⟩:=h;exact⟨D,h.alloc o,r⟩
theorem MapF.setCell (h:MapF w P k b n F) {a:Addr} (ha:b≠a.block) (u:Value):MapF (w.setCell a u) P k b n F:=by obtain⟨D,h,r⟩:=h;exact⟨D,h.setCell ha u,r⟩
theorem MapF.below (h:MapF w P k b n F) {B:Nat} (hb:Below B w w') (hB:b<B):MapF w' P k b n F:=by
 obtain⟨D,⟨es,clock,he,r⟩,q⟩:=h;exact⟨D,⟨es,clock,(hb.block b hB).trans he,r⟩,q⟩
theorem Y4s {ops:Array Oper} {rest:List Oper} {o:Oper} {a:Act} {Q:Exit→Act→World→Prop}
  (hg:o.guard=none) (m x:Operand) (t:TypeId) (hop:o.op=Op.lookup t m x true)
  (e:TypeId) (K:Maps.Keyed P k) (ht:P.underlying t=some (.map k e)) (z:Value) (hz:(zeroValue e).run P w = .ok z w)
  (hm:a.eval m = .map (some b)) (hown:MapF w P k b n F) (key:Value) (kl:Lit) (hx:a.eval x=key) (hkey:keyOf P k key=some kl)
  (hK:wpList P ops Q rest (a.put o.dst (.tuple #[(F kl).getD z,.bool (F kl).isSome])) w) :
  wpList P ops Q (o::rest) a w:=by
 obtain⟨D,h,r⟩:=hown;obtain⟨r1,r2⟩:=r kl (K.key hkey);refine wpList_lookup_own_ok w hg m x t hop k e K ht heldR hz (.held z) [] rfl b n D hm h key kl hx hkey (fun v ps hv=>?_)
 have hv':v=(F kl).getD z:=by
  rw[r1]at hv;unfold heldR at hv;simp only[Option.some.injEq,Prod.mk.injEq]at hv;cases hF:F kl with
  | none=>rw[hF]at hv;simpa using hv.1
  | some u=>rw[hF]at hv;simpa using hv.1
 rw[r2,hv'];exact hK
theorem Y1s {ops:Array Oper} {rest:List Oper} {o:Oper} {a:Act} {Q:Exit→Act→World→Prop}
  (hg:o.guard=none) (m x v:Operand) (t:TypeId) (hop:o.op=Op.mapUpdate t m x v)
  (e:TypeId) (K:Maps.Keyed P k) (ht:P.underlying t=some (.map k e)) (hm:a.eval m = .map (some b)) (hown:MapF w P k b n F) (hn:n<maxLen) (key val:Value) (kl:Lit)
  (hx:a.eval x=key) (hv:a.eval v=val) (hkey:keyOf P k key=some kl)
  (hK:∀w',MapF w' P k b (n+1) (fun q=>if q.sameKey kl=true then some val else F q)→w.grownBy w' (some b)→wpList P ops Q rest (a.put o.dst undef) w') :
  wpList P ops Q (o::rest) a w:=by
 obtain⟨D,h,r⟩:=hown;refine wpList_mapUpdate_own w hg m x v t hop k e K ht heldR b n D hm h hn key val kl hx hv hkey (.held val) [] rfl ?_;intro w' h' hgr;refine hK w' ⟨_,h',fun q hq=>?_⟩ hgr;by_cases hqk:q=kl
 ·subst hqk
  dsimp only;rw[if_pos (WideAt.sameKey_self hq)];exact⟨fun z=>Maps.atKey_put_same h.isMap hq _ z,Maps.has_put_same h.isMap hq _⟩
 ·dsimp only
  rw[if_neg (fun h=>hqk (WideAt.sameKey_eq h))];obtain⟨r1,r2⟩:=r q hq;exact⟨fun z=>by rw[Maps.atKey_put_other hqk];exact r1 z,by rw[Maps.has_put_other hqk];exact r2⟩
theorem Y1c {ops:Array Oper} {rest:List Oper} {o:Oper} {a:Act} {Q:Exit→Act→World→Prop}
  (hg:o.guard=none) (m x:Operand) (t:TypeId) (hop:o.op=Op.lookup t m x false)
  (e:TypeId) (K:Maps.Keyed P k) (ht:P.underlying t=some (.map k e)) (z:Value) (hz:(zeroValue e).run P w = .ok z w)
  (hm:a.eval m = .map (some b)) (hown:MapF w P k b n F) (key:Value) (kl:Lit) (hx:a.eval x=key) (hkey:keyOf P k key=some kl)
  (hK:wpList P ops Q rest (a.put o.dst ((F kl).getD z)) w) :
  wpList P ops Q (o::rest) a w:=by
 refine wpList_plain hg fun K' hK'=>?_;obtain⟨D,h,r⟩:=hown;obtain⟨r1,r2⟩:=r kl (K.key hkey);obtain⟨v,ps,hrun,hv⟩:=h.lookup K ht hz (zd := .held z) (zp:=[]) rfl hkey
 have hv':v=(F kl).getD z:=by
  rw[r1]at hv;unfold heldR at hv;simp only[Option.some.injEq,Prod.mk.injEq]at hv;cases hF:F kl with
  | none=>rw[hF]at hv;simpa using hv.1
  | some u=>rw[hF]at hv;simpa using hv.1
 subst hv';unfold Oper.wp;simp [execOp,hop,hm,hx,hrun,Result.andThen];exact hK' _ _ hK
def MapT {κ:Type} (f:κ→Value) (w:World) (P:Program) (k:TypeId) (b n:Nat) (G:κ→Option Value):Prop:=
 ∃F,MapF w P k b n F∧∀x kl,keyOf P k (f x)=some kl→F kl=G x
variable {κ:Type} {f:κ→Value} {G:κ→Option Value}
theorem MapT.made (w:World) (P:Program) (k:TypeId):MapT f (w.alloc (.map #[] 0)) P k w.heap.size 0 (fun _=>none):=⟨_,MapF.made w P k,fun _ _ _=>rfl⟩
theorem MapT.madeAt {g:Nat} (w:World) (P:Program) (k:TypeId) (hg:w.heap.size=g):MapT f (w.alloc (.map #[] 0)) P k g 0 (fun _=>none):=⟨_,MapF.madeAt w P k hg,fun _ _ _=>rfl⟩
theorem MapT.lt (h:MapT f w P k b n G):b<w.heap.size:=by obtain⟨F,h,_⟩:=h;exact h.lt
theorem MapT.grown (h:MapT f w P k b n G) {row:Option Nat} (hg:w.grownBy w' row) (hne:some b≠row):MapT f w' P k b n G:=by obtain⟨F,h,r⟩:=h;exact⟨F,h.grown hg hne,r⟩
theorem MapT.alloc (h:MapT f w P k b n G) (o:Obj):MapT f (w.alloc o) P k b n G:=by obtain⟨F,h,r⟩:=h;exact⟨F,h.alloc o,r⟩
theorem MapT.drewN (h:MapT f w P k b n G) (q:Nat):MapT f (w.drewN q) P k b n G:=h
theorem MapT.setCell (h:MapT f w P k b n G) {a:Addr} (ha:b≠a.block) (u:Value):MapT f (w.setCell a u) P k b n G:=by obtain⟨F,h,r⟩:=h;exact⟨F,h.setCell ha u,r⟩
theorem MapT.below (h:MapT f w P k b n G) {B:Nat} (hb:Below B w w') (hB:b<B):MapT f w' P k b n G:=by obtain⟨F,h,r⟩:=h;exact⟨F,h.below hb hB,r⟩
theorem MapT.ext (h:MapT f w P k b n G) {G':κ→Option Value} (he:∀x,G' x=G x):MapT f w P k b n G':=by obtain⟨F,h,r⟩:=h;exact⟨F,h,fun x kl hk=>(r x kl hk).trans (he x).symm⟩
theorem Y5c {ops:Array Oper} {rest:List Oper} {o:Oper} {a:Act} {Q:Exit→Act→World→Prop}
  (hg:o.guard=none) (m x:Operand) (t:TypeId) (hop:o.op=Op.lookup t m x true)
  (e:TypeId) (K:Maps.Keyed P k) (ht:P.underlying t=some (.map k e)) (z:Value) (hz:(zeroValue e).run P w = .ok z w)
  (hm:a.eval m = .map (some b)) (hown:MapT f w P k b n G) (y:κ) (kl:Lit) (hx:a.eval x=f y) (hkey:keyOf P k (f y)=some kl)
  (hK:wpList P ops Q rest (a.put o.dst (.tuple #[(G y).getD z,.bool (G y).isSome])) w) :
  wpList P ops Q (o::rest) a w:=by
 obtain⟨F,h,r⟩:=hown;exact Y4s hg m x t hop e K ht z hz hm h (f y) kl hx hkey (by rw[r y kl hkey];exact hK)
theorem Y8y {ops:Array Oper} {rest:List Oper} {o:Oper} {a:Act} {Q:Exit→Act→World→Prop}
  (hg:o.guard=none) (m x:Operand) (t:TypeId) (hop:o.op=Op.lookup t m x true)
  (e:TypeId) (K:Maps.Keyed P k) (ht:P.underlying t=some (.map k e)) (z:Value) (hz:(zeroValue e).run P w = .ok z w)
  (hm:a.eval m = .map (some b)) (hown:MapT f w P k b n G) (y:κ) (kl:Lit) (hx:a.eval x=f y) (hkey:keyOf P k (f y)=some kl) (v:Value) (ok:Bool) (hv:(G y).getD z=v) (hb:(G y).isSome=ok)
  (hK:wpList P ops Q rest (a.put o.dst (.tuple #[v,.bool ok])) w) :
  wpList P ops Q (o::rest) a w:=by
 subst hv;subst hb;exact Y5c hg m x t hop e K ht z hz hm hown y kl hx hkey hK
theorem Y7c {ops:Array Oper} {rest:List Oper} {o:Oper} {a:Act} {Q:Exit→Act→World→Prop}
  (hg:o.guard=none) (m x:Operand) (t:TypeId) (hop:o.op=Op.lookup t m x false)
  (e:TypeId) (K:Maps.Keyed P k) (ht:P.underlying t=some (.map k e)) (z:Value) (hz:(zeroValue e).run P w = .ok z w)
  (hm:a.eval m = .map (some b)) (hown:MapT f w P k b n G) (y:κ) (kl:Lit) (hx:a.eval x=f y) (hkey:keyOf P k (f y)=some kl)
  (hK:wpList P ops Q rest (a.put o.dst ((G y).getD z)) w) :
  wpList P ops Q (o::rest) a w:=by
 obtain⟨F,h,r⟩:=hown;exact Y1c hg m x t hop e K ht z hz hm h (f y) kl hx hkey (by rw[r y kl hkey];exact hK)
theorem Y8l [DecidableEq κ] {ops:Array Oper} {rest:List Oper} {o:Oper} {a:Act} {Q:Exit→Act→World→Prop}
  (hg:o.guard=none) (m x v:Operand) (t:TypeId) (hop:o.op=Op.mapUpdate t m x v)
  (e:TypeId) (K:Maps.Keyed P k) (ht:P.underlying t=some (.map k e)) (hm:a.eval m = .map (some b)) (hown:MapT f w P k b n G) (hinj:∀x y,f x=f y→x=y) (hn:n<maxLen) (y:κ) (val:Value) (kl:Lit)
  (hx:a.eval x=f y) (hv:a.eval v=val) (hkey:keyOf P k (f y)=some kl)
  (hK:∀w',MapT f w' P k b (n+1) (fun q=>if q=y then some val else G q)→w.grownBy w' (some b)→wpList P ops Q rest (a.put o.dst undef) w') :
  wpList P ops Q (o::rest) a w:=by
 obtain⟨F,h,r⟩:=hown;refine Y1s hg m x v t hop e K ht hm h hn (f y) val kl hx hv hkey ?_;intro w' h' hgr;refine hK w' ⟨_,h',fun q ql hq=>?_⟩ hgr;dsimp only;by_cases hqy:q=y
 ·subst hqy
  rw[hkey]at hq;injection hq with hq
  subst hq;rw[if_pos (WideAt.sameKey_self (K.key hkey)),if_pos rfl]
 ·have hne:¬ql.sameKey kl=true:=fun hs=>by
   have:=WideAt.sameKey_eq hs
   subst this;exact hqy (hinj _ _ (K.inj hq hkey))
  rw[if_neg hne,if_neg hqy];exact r q ql hq
end
open Go.RowKit
theorem MapT.storeRun {κ:Type} [DecidableEq κ] {f:κ→Value} {P:Program} {k:TypeId} {w:World} {b n:Nat} {G:κ→Option Value} {t e:TypeId} (h:MapT f w P k b n G) (K:Maps.Keyed P k) (ht:P.underlying t=some (.map k e)) (hinj:∀x y,f x=f y→x=y) (hn:n<maxLen) (y:κ) (val:Value) {kl:Lit} (hkey:keyOf P k (f y)=some kl) :
  ∃w',(Instr.mapUpdate t (.map (some b)) (f y) val).run P w = .ok () w'∧w.grownBy w' (some b)∧MapT f w' P k b (n+1) (fun q=>if q=y then some val else G q):=by
 obtain⟨F,⟨D,h,r⟩,rG⟩:=h;obtain⟨w1,h1,h2,h3⟩:=h.update K ht hn hkey (val:=val) (d := .held val) (ps:=[]) rfl;refine⟨w1,h1,h3,fun q=>if q.sameKey kl=true then some val else F q,⟨_,h2,fun q hq=>?_⟩,fun x ql hx=>?_⟩
 ·by_cases hqk:q=kl
  ·subst hqk
   dsimp only;rw[if_pos (WideAt.sameKey_self hq)];exact⟨fun z=>Maps.atKey_put_same h.isMap hq _ z,Maps.has_put_same h.isMap hq _⟩
  ·dsimp only
   rw[if_neg (fun h=>hqk (WideAt.sameKey_eq h))];obtain⟨r1,r2⟩:=r q hq;exact⟨fun z=>by rw[Maps.atKey_put_other hqk];exact r1 z,by rw[Maps.has_put_other hqk];exact r2⟩
 ·dsimp only
  by_cases hqy:x=y
  ·subst hqy
   rw[hkey]at hx;injection hx with hx
   subst hx;rw[if_pos (WideAt.sameKey_self (K.key hkey)),if_pos rfl]
  ·have hne:¬ql.sameKey kl=true:=fun hs=>by
    have:=WideAt.sameKey_eq hs
    subst this;exact hqy (hinj _ _ (K.inj hx hkey))
   rw[if_neg hne,if_neg hqy];exact rG x ql hx
def cGood (pool:List Cst) (c:Cst):Bool:=
 if c.tag=1 then uOk c.text&&decide (c.text.length≤65535∧c=⟨1,0,0,0,c.text⟩)
 else if c.tag=3 then decide (-2147483648≤c.num∧c.num≤2147483647∧c=⟨3,0,0,c.num,[]⟩)
 else if c.tag=5 then decide (c=⟨5,0,0,c.num,[]⟩)
 else if c.tag=7∨c.tag=8 then decide (tagP pool c.a=1∧c=⟨c.tag,c.a,0,0,[]⟩)
 else if c.tag=9∨c.tag=10∨c.tag=11 then decide (tagP pool c.a=7∧tagP pool c.b=12∧c=⟨c.tag,c.a,c.b,0,[]⟩)
 else if c.tag=12 then decide (tagP pool c.a=1∧tagP pool c.b=1∧c=⟨12,c.a,c.b,0,[]⟩)
 else false
theorem Y6z {pool:List Cst} {i:Nat} {c:Cst} (hi:i≠0) (h0:c.tag≠0):rightP pool i c=(cGood pool c&&(if c.tag=5 then decide ((pool[i+1]?).map (·.tag)=some 0) else true)):=by
 unfold rightP cGood;rw[if_neg h0,Z47 hi,Z25];by_cases h5:c.tag=5
 ·rw[if_neg (by omega),if_neg (by omega),if_pos h5,if_neg (by omega),if_neg (by omega),if_pos h5,if_pos h5,Bool.and_comm,Bool.decide_and]
 ·rw[if_neg h5,if_neg h5,if_neg h5,Bool.and_true]
theorem Y3j {pool:List Cst} {c:Cst} (h:cGood pool c=true):c.tag≠0:=by
 intro e;unfold cGood at h;rw[e,if_neg (by decide),if_neg (by decide),if_neg (by decide),if_neg (by decide),if_neg (by decide),if_neg (by decide)]at h;cases h
def RestOk (pool:List Cst) (i:Nat):Prop:=∀j c,i≤j→pool[j]? = some c→rightP pool j c=true
theorem Y4a {pool:List Cst}:rightsP pool=true↔RestOk pool 0:=by
 constructor
 ·intro h j c _ hc;exact X8s h hc
 ·intro h
  unfold rightsP;rw[Z31];intro j hj;cases hc:pool[j]? with
  | none=>rfl
  | some c=>exact h j c (Z35 _) hc
theorem Y3y {pool:List Cst} (h:pool[0]? = some cst0):RestOk pool 0↔RestOk pool 1:=by
 constructor
 ·intro k j c hj hc;exact k j c (by omega) hc
 ·intro k j c hj hc
  cases j with
  | zero=>
   rw[h]at hc;injection hc with hc
   subst hc;unfold rightP;rw[if_pos (show cst0.tag=0 from rfl)]
   simp
  | succ j=>exact k (j+1) c (by omega) hc
theorem X9m {pool:List Cst} {i:Nat} {c:Cst} (hi:1≤i) (hp:(pool[i-1]?).map (·.tag)≠some 5) (hc:pool[i]? = some c) (hg:cGood pool c=false):¬RestOk pool i:=by
 intro k;have h:=k i c (Z00 _) hc;by_cases h0:c.tag=0
 ·rcases(Y4o h h0).1 with e | e
  ·omega
  ·exact hp e
 ·rw[Y6z (by omega) h0,hg]at h
  cases h
theorem X0f {pool:List Cst} {i:Nat} {c:Cst} (hi:1≤i) (hc:pool[i]? = some c) (hg:cGood pool c=true) (h5:c.tag≠5):(RestOk pool i↔RestOk pool (i+1))∧(pool[i+1-1]?).map (·.tag)≠some 5:=by
 refine⟨⟨fun k j d hj hd=>k j d (by omega) hd,fun k j d hj hd=>?_⟩,by rw[Nat.add_sub_cancel,hc];simpa using h5⟩;rcases Nat.lt_or_ge i j with h | h
 ·exact k j d (by omega) hd
 ·obtain rfl:j=i:=by omega
  rw[hc]at hd;injection hd with hd
  subst hd;rw[Y6z (by omega) (Y3j hg),hg,if_neg h5];rfl
theorem X5o {pool:List Cst} {i:Nat} {c:Cst} (hi:1≤i) (hc:pool[i]? = some c) (hg:cGood pool c=true) (h5:c.tag=5) (hz:pool[i+1]? = some cst0):(RestOk pool i↔RestOk pool (i+2))∧(pool[i+2-1]?).map (·.tag)≠some 5:=by
 have e1:i+2-1=i+1:=(by omega);refine⟨⟨fun k j d hj hd=>k j d (by omega) hd,fun k j d hj hd=>?_⟩,by rw[e1,hz];simp [cst0]⟩;rcases Nat.lt_or_ge (i+1) j with h | h
 ·exact k j d (by omega) hd
 rcases(by omega:j=i∨j=i+1) with e | e
 ·subst e
  rw[hc]at hd;injection hd with hd
  subst hd;rw[Y6z (by omega) (Y3j hg),hg,if_pos h5,hz];rfl
 ·subst e
  rw[hz]at hd;injection hd with hd
  subst hd;unfold rightP;rw[if_pos (show cst0.tag=0 from rfl),Nat.add_sub_cancel,hc];simp [h5]
theorem Y5z {pool:List Cst} {i:Nat} {c:Cst} (hi:1≤i) (hc:pool[i]? = some c) (hg:cGood pool c=true) (h5:c.tag=5) (hz:pool[i+1]? ≠ some cst0):¬RestOk pool i:=by
 intro k;have h:=k i c (Z00 _) hc;rw[Y6z (by omega) (Y3j hg),hg,if_pos h5,Z25,decide_eq_true_eq]at h;cases hd:pool[i+1]? with
 | none=>rw[hd]at h;cases h
 | some d=>
  rw[hd]at h;injection h with h
  have:=(Y4o (k (i+1) d (by omega) hd) h).2
  exact hz (by rw[hd,this])
theorem X2e {pool:List Cst} {i:Nat} (h:pool.length≤i):RestOk pool i:=by
 intro j c hj hc
 have:=(Z24.1 hc).1
 omega
open Go.RowKit
theorem u8_info:(Tryd.prog.info? 5).map (fun i=>(i.zero,i.size,i.bytes))=some (some (.int .u8 0),1,1):=by kernel_rfl
theorem byteTy:ETy Tryd.prog 28 5 (.int .u8 0) 1 1:=⟨Tryd.underlying28,info_parts u8_info,rfl,by decide⟩
end Go.Proofs.YtpmfiegfbmamiaaDoor
