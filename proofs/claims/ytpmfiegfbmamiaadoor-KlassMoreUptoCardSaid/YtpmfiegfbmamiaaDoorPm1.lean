/- Words for memory that all walks of this claim share: a slice that reads as cells, as bytes, as numbers; append onto a row of the call's own from any source. Nothing here speaks of the program. -/
import Derived.WalkKit
import Derived.WalkSpells
import Derived.WalkLawsBesides
import Derived.Lib.Hide
import Derived.Deep.QuietTactic
import Derived.BigQuiet
import Derived.Deep.AppendLies
import Derived.Laws.OwnMore
import Derived.Laws.Rows
import Derived.Deep.LoopGhost
namespace Go.Proofs.YtpmfiegfbmamiaaDoor
set_option linter.defProp false
def Z00:=@Nat.le_refl
def Z01:=@List.getElem_toArray
def Z02:=@List.getElem_cons_zero
def Z03:=@List.getElem_cons_succ
def Z04:=@List.set_cons_zero
def Z05:=@List.set_cons_succ
def Z06:=@List.setIfInBounds_toArray
def Z07:=@Nat.lt_of_lt_of_le
def Z08:=@Nat.le_trans
def Z09:=@List.length_append
def Z11:=@List.length_cons
def Z12:=@Nat.le_of_lt
def Z13:=@List.length_nil
def Z14:=@List.append_nil
def Z15:=@List.take_of_length_le
def Z16:=@List.mem_of_getElem?
def Z17:=@List.length_map
def Z19:=@List.getElem?_toArray
def Z20:=@Bool.and_eq_true
def Z21:=@List.getElem?_cons_succ
def Z22:=@Nat.zero_add
def Z23:=@List.mem_cons
def Z24:=@List.getElem?_eq_some_iff
def Z25:=@Bool.true_and
def Z26:=@Int.toNat_of_nonneg
def Z27:=@List.flatMap_cons
def Z28:=@List.nil_append
def Z29:=@List.length_take
def Z30:=@Int.toNat_natCast
def Z31:=@List.all_eq_true
def Z32:=@Nat.le_of_eq
def Z33:=@List.getElem?_eq_getElem
def Z34:=@List.map_append
def Z35:=@Nat.zero_le
def Z36:=@List.eq_nil_of_length_eq_zero
def Z37:=@List.flatMap_nil
def Z38:=@Nat.lt_succ_self
def Z39:=@List.mem_range
def Z40:=@List.take_add_one
def Z41:=@List.mem_append
def Z42:=@List.drop_eq_getElem_cons
def Z43:=@List.not_mem_nil
def Z44:=@Int.eq_ofNat_of_zero_le
def Z45:=@Array.getElem?_setIfInBounds_ne
def Z46:=@Array.getElem?_setIfInBounds_self
def Z47:=@decide_eq_true
def Z48:=@decide_eq_false
def Z49:=@of_decide_eq_true
open Go.RowKit
theorem blk_add (a:Addr) (n:Nat):(a.add n).block=a.block:=by unfold Addr.add;split <;> rfl
theorem addadd (a:Addr) (i j:Nat):(a.add i).add j=a.add (i+j):=by
 unfold Addr.add;by_cases hi:i=0 <;> by_cases hj:j=0 <;> simp [hi,hj,Nat.add_assoc]
theorem X3k (a:Addr) (n:Nat):a.add (n+1)=⟨a.block,a.off+(n+1),none⟩:=by unfold Addr.add;simp
def Rd (w:World) (B:Nat) (A:Option Addr) (xs:List Value):Prop:=
 xs≠[]→∃ad,A=some ad∧ad.block<B∧∀i u,xs[i]? = some u→w.cell? (ad.add i)=some u
theorem Rd.nil {w:World} {B:Nat} {A:Option Addr}:Rd w B A []:=fun h=>absurd rfl h
theorem Rd.keep {w w':World} {B:Nat} {A:Option Addr} {xs:List Value} (h:Rd w B A xs) (hk:∀p:Addr,p.block<B→w'.cell? p=w.cell? p):Rd w' B A xs:=fun hn=>by
 obtain⟨ad,e,hb,hc⟩:=h hn;exact⟨ad,e,hb,fun i u hu=>(hk _ (by rw[blk_add];exact hb)).trans (hc i u hu)⟩
theorem Rd.more {w:World} {B B':Nat} {A:Option Addr} {xs:List Value} (h:Rd w B A xs) (hB:B≤B'):Rd w B' A xs:=fun hn=>by
 obtain⟨ad,e,hb,hc⟩:=h hn;exact⟨ad,e,by omega,hc⟩
theorem Rd.below {w w':World} {B B':Nat} {A:Option Addr} {xs:List Value} (h:Rd w B A xs) (hb:Below B' w w') (hB:B≤B'):Rd w' B A xs:=
 h.keep fun _ hp=>hb.cell (by omega)
theorem Rd.top {w:World} {B:Nat} {A:Option Addr} {xs:List Value} (h:Rd w B A xs):Rd w w.heap.size A xs:=fun hn=>by
 obtain⟨ad,e,_,hc⟩:=h hn;refine⟨ad,e,?_,hc⟩
 match xs,hn with
 | u::_,_=>have:=World.block_lt_of_cell? _ _ (hc 0 u rfl);rwa [blk_add]at this
theorem Rd.step {w w':World} {B:Nat} {A:Option Addr} {xs:List Value} (h:Rd w B A xs) (hb:Below w.heap.size w w'):Rd w' w'.heap.size A xs:=
 ((h.top).below hb (Z00 _)).top
theorem Rd.alloc {w:World} {B:Nat} {A:Option Addr} {xs:List Value} (h:Rd w B A xs) (hB:B≤w.heap.size) (o:Obj):Rd (w.alloc o) B A xs:=
 h.keep fun p hp=>World.cell?_alloc_lt w o p (by omega)
theorem Rd.setCell {w:World} {B:Nat} {A:Option Addr} {xs:List Value} (h:Rd w B A xs) {p:Addr} (hB:B≤p.block) (u:Value):Rd (w.setCell p u) B A xs:=
 h.keep fun q hq=>World.cell?_setCell_other w p q u (fun e=>by subst e;omega)
theorem Rd.drop {w:World} {B:Nat} {A:Option Addr} {xs:List Value} (h:Rd w B A xs) (k:Nat):Rd w B (A.map (·.add k)) (xs.drop k):=fun hn=>by
 obtain⟨ad,rfl,hb,hc⟩:=h (fun e=>hn (by simp [e]));refine⟨ad.add k,rfl,by rw[blk_add];exact hb,fun i u hu=>?_⟩;rw[addadd];exact hc _ u (by rw[←hu,List.getElem?_drop])
theorem Rd.take {w:World} {B:Nat} {A:Option Addr} {xs:List Value} (h:Rd w B A xs) (k:Nat):Rd w B A (xs.take k):=fun hn=>by
 obtain⟨ad,e,hb,hc⟩:=h (fun e=>hn (by simp [e]));refine⟨ad,e,hb,fun i u hu=>hc i u ?_⟩;rw[List.getElem?_take]at hu
 split at hu
 ·exact hu
 ·cases hu
theorem Rd.cut {w:World} {B:Nat} {A:Option Addr} {xs:List Value} (h:Rd w B A xs) {k cap:Nat} (hc:xs.length≤cap):Rd w B (if cap=k then A else A.map (·.add k)) (xs.drop k):=by
 by_cases e:cap=k
 ·have:xs.drop k=[]:=List.drop_eq_nil_of_le (by omega)
  rw[this];exact Rd.nil
 ·rw[if_neg e];exact h.drop k
theorem Rd.at_ {w:World} {B:Nat} {A:Option Addr} {xs:List Value} (h:Rd w B A xs) {k:Nat} (hk:k<xs.length):∃ad u,A=some ad∧ad.block<B∧xs[k]? = some u∧w.cell? (ad.add k)=some u:=by
 obtain⟨ad,e,hb,hc⟩:=h (fun e=>by simp [e]at hk);exact⟨ad,xs[k],e,hb,Z33 hk,hc k _ (Z33 hk)⟩
theorem Rd.own {w:World} {base:Nat} {e:TypeId} {size:Nat} {A:Option Addr} {n c:Nat} {xs:List Value} (h:w.ownsRow base e size (.slice A n c) n xs):Rd w w.heap.size A xs:=fun hn=>by
 have h0:0<n:=by
  rcases Nat.eq_zero_or_pos n with h0 | h0
  ·exact absurd (Z36 (by rw[h.1,h0];simp)) hn
  ·exact h0
 obtain⟨g,cap,hv,_,hlt⟩:=h.form h0;have hA:A=some ⟨g,0,none⟩:=(by injection hv);subst hA;exact⟨_,rfl,hlt,h.cells (g:=g) rfl⟩
def bV (x:UInt8):Value := .int .u8 (x.toNat:Int)
def iV (x:Int):Value := .int .i64 x
def RL {α:Type} (f:α→Value) (w:World) (B:Nat) (A:Option Addr) (l:List α):Prop:=Rd w B A (l.map f)
def OwL {α:Type} (f:α→Value) (w:World) (base:Nat) (e:TypeId) (v:Value) (l:List α):Prop:=w.ownsRow base e 1 v l.length (l.map f)
abbrev RB:=RL bV
abbrev RI:=RL iV
abbrev OwB:=OwL bV
section
variable {α:Type} {f:α→Value} {w w':World} {B B':Nat} {A:Option Addr} {l:List α} {base:Nat} {e:TypeId} {v:Value}
theorem RL.nil:RL f w B A []:=Rd.nil
theorem RL.atl (h:RL f w B A l) {k:Nat} (hk:k<l.length):∃ad x,A=some ad∧ad.block<B∧Hid (l[k]? = some x)∧w.cell? (ad.add k)=some (f x):=by
 obtain⟨ad,u,e,hb,hu,hc⟩:=Rd.at_ h (k:=k) (by simpa using hk);refine⟨ad,l[k],e,hb,Z33 hk,?_⟩;rw[hc,←hu];simp [hk]
theorem RL.byte {l:List UInt8} (h:RB w B A l) {k:Nat} (hk:k<l.length) :
  ∃ad x,A=some ad∧ad.block<B∧Hid (l[k]? = some x)∧w.cell? (ad.add k)=some (.int .u8 (x.toNat:Int)):=RL.atl h hk
theorem RL.num {l:List Int} (h:RI w B A l) {k:Nat} (hk:k<l.length) :
  ∃ad x,A=some ad∧ad.block<B∧Hid (l[k]? = some x)∧w.cell? (ad.add k)=some (.int .i64 x):=RL.atl h hk
theorem RL.drop (h:RL f w B A l) (k:Nat):RL f w B (A.map (·.add k)) (l.drop k):=by
 unfold RL;rw[List.map_drop];exact Rd.drop h k
theorem RL.take (h:RL f w B A l) (k:Nat):RL f w B A (l.take k):=by
 unfold RL;rw[List.map_take];exact Rd.take h k
theorem RL.cut (h:RL f w B A l) {k cap:Nat} (hc:l.length≤cap):RL f w B (if cap=k then A else A.map (·.add k)) (l.drop k):=by
 unfold RL;rw[List.map_drop];exact Rd.cut h (by simpa using hc)
theorem RL.below (h:RL f w B A l) (hb:Below B' w w') (hB:B≤B'):RL f w' B A l:=Rd.below h hb hB
theorem RL.more (h:RL f w B A l) (hB:B≤B'):RL f w B' A l:=Rd.more h hB
theorem RL.top (h:RL f w B A l):RL f w w.heap.size A l:=Rd.top h
theorem RL.step (h:RL f w B A l) (hb:Below w.heap.size w w'):RL f w' w'.heap.size A l:=Rd.step h hb
theorem RL.drew (h:RL f w B A l):RL f w.drew B A l:=h
theorem OwL.drew (h:OwL f w base e v l):OwL f w.drew base e v l:=h
theorem OwL.drewN (h:OwL f w base e v l) (k:Nat):OwL f (w.drewN k) base e v l:=h
theorem RL.drewN (h:RL f w B A l) (k:Nat):RL f (w.drewN k) B A l:=h
theorem RL.alloc (h:RL f w B A l) (hB:B≤w.heap.size) (o:Obj):RL f (w.alloc o) B A l:=Rd.alloc h hB o
theorem RL.setCell (h:RL f w B A l) {p:Addr} (hB:B≤p.block) (u:Value):RL f (w.setCell p u) B A l:=Rd.setCell h hB u
theorem RL.low {B':Nat} (h:RL f w B A l) (h':RL f w' B' A l):RL f w' B A l:=fun hn=>by
 obtain⟨ad,e,hb,_⟩:=h hn;obtain⟨ad',e',_,hc⟩:=h' hn;rw[e]at e';injection e' with e'
 subst e';exact⟨ad,e,hb,hc⟩
theorem RL.fresh (w:World) (x:α) (e:TypeId):RL f (w.alloc (.cells #[f x] e)) (w.heap.size+1) (some ⟨w.heap.size,0,none⟩) [x]:=
 fun _=>⟨_,rfl,Z38 _,cell_one_new _ _ _⟩
theorem RL.freshe (w:World) (x:α) {u:Value} (h:u=f x) (e:TypeId):RL f (w.alloc (.cells #[u] e)) (w.heap.size+1) (some ⟨w.heap.size,0,none⟩) [x]:=by
 subst h;exact RL.fresh w x e
theorem OwL.nil:OwL f w base e (.slice none 0 0) []:=World.ownsRow_nil _ _ _ _
theorem OwL.lit0 (w:World) (hB:base≤w.heap.size):OwL f (w.alloc (.cells #[] e)) base e (.slice (some ⟨w.heap.size,0,none⟩) 0 0) []:=
 World.ownsRow_made w #[] 0 hB (by unfold maxLen;omega) (by simp)
theorem OwL.alloc (h:OwL f w base e v l) (o:Obj):OwL f (w.alloc o) base e v l:=World.ownsRow.alloc h o
theorem OwL.rd (h:OwL f w base e v l):∃A c,v = .slice A l.length c∧RL f w w.heap.size A l∧l.length≤c∧(c:Int)≤9223372036854775807:=by
 rcases h.2 with⟨rfl,h0⟩ | ⟨g,cap,cur,rfl,hb,hh,hc,hm,r⟩
 ·have:l=[]:=Z36 h0
  subst this;exact⟨none,0,rfl,Rd.nil,Z00 _,by omega⟩
 ·exact⟨_,cap,rfl,Rd.own (size:=1) (h:w.ownsRow base e 1 _ l.length (l.map f)),hc,by unfold maxLen at hm;omega⟩
theorem OwL.rl {n c:Nat} (h:OwL f w base e (.slice A n c) l):RL f w w.heap.size A l:=by
 obtain⟨A',c',hv,hr,_⟩:=h.rd;injection hv with h1 _ _
 subst h1;exact hr
theorem OwL.below (h:OwL f w base e v l) (hb:Below w.heap.size w w'):OwL f w' base e v l:=
 World.ownsRow.kept (row:=none) h ⟨hb.os,hb.tape,hb.output,hb.size,fun k hk _=>hb.block k hk⟩ (by cases hv:v.ownBlock <;> simp)
theorem OwL.agree (h:OwL f w base e v l) (ha:∀k,base≤k→k<w.heap.size→w'.heap[k]? = w.heap[k]?):OwL f w' base e v l:=by
 refine⟨h.1,?_⟩;rcases h.2 with hn | ⟨g,cap,cur,rfl,hb,hgg,rest⟩
 ·exact .inl hn
 ·exact .inr ⟨g,cap,cur,rfl,hb,(ha g hb (Array.getElem?_eq_some_iff.1 hgg).1).trans hgg,rest⟩
theorem OwL.kept {row:Option Nat} (h:OwL f w base e v l) (hg:w.grownBy w' row) (hne:v.ownBlock=none∨v.ownBlock≠row):OwL f w' base e v l:=World.ownsRow.kept h hg hne
theorem OwL.low {base':Nat} (h:OwL f w base e v l) (hB:base'≤base):OwL f w base' e v l:=by
 refine⟨h.1,?_⟩;rcases h.2 with h0 | ⟨g,cap,cur,hv,hb,r⟩
 ·exact .inl h0
 ·exact .inr ⟨g,cap,cur,hv,Z08 hB hb,r⟩
theorem OwL.len {g n c:Nat} (h:OwL f w base e (.slice (some ⟨g,0,none⟩) n c) l):n=l.length:=by
 rcases h.2 with⟨h',_⟩ | ⟨g',cap',cur,h',_⟩
 ·simp at h'
 ·simp only[Value.slice.injEq]at h';exact h'.2.1
theorem OwL.cell {g n c:Nat} (h:OwL f w base e (.slice (some ⟨g,0,none⟩) n c) l) {k:Nat} {x:α} (hx:l[k]? = some x):w.cell? ⟨g,k,none⟩=some (f x):=by
 have:=World.ownsRow.cells h (g:=g) rfl k (f x) (by simp [hx])
 rwa [Addr.add_lit,Z22]at this
theorem OwL.frz {g n c:Nat} (h:OwL f w base e (.slice (some ⟨g,0,none⟩) n c) l) (j:Nat):w.frozen? ⟨g,j,none⟩=false:=by
 have hn:=h.len;subst hn;exact World.ownsRow.frozenAt h j
theorem OwL.set {g n c:Nat} (h:OwL f w base e (.slice (some ⟨g,0,none⟩) n c) l) (k:Nat) (x:α) :
  OwL f (w.setCell ⟨g,k,none⟩ (f x)) base e (.slice (some ⟨g,0,none⟩) n c) (l.set k x):=by
 have hn:=h.len;subst hn
 have:=(World.ownsRow.stored h k (f x)).1
 unfold OwL;rw[List.map_set,List.length_set];exact this
theorem OwL.blk {g n c:Nat} (h:OwL f w base e (.slice (some ⟨g,0,none⟩) n c) l):base≤g∧g<w.heap.size:=World.ownsRow.lt h g rfl
theorem OwL.made {z:α} {n g c:Nat} (h:w.ownsRow base e 1 (.slice (some ⟨g,0,none⟩) n c) n (madeCells #[f z] n).toList):OwL f w base e (.slice (some ⟨g,0,none⟩) n c) (List.replicate n z):=by
 unfold OwL;rw[List.length_replicate,List.map_replicate]
 rwa [toList_madeCells_one]at h
theorem Y5a (hf:∀x,(f x).oneCell'=true) (l:List α):∀u∈l.map f,u.oneCell'=true:=by
 intro u hu;obtain⟨x,_,rfl⟩:=List.mem_map.1 hu;exact hf x
end
structure ETy (P:Program) (t e:TypeId) (z:Value) (size bytes:Nat):Prop where
 sl:P.underlying t=some (.slice e)
 info:∃i,P.info? e=some i∧i.zero=some z∧i.size=size∧i.bytes=bytes
 cells:z.cells.size=size
 pos:0<size
section
variable {P:Program} (w:World)
theorem run_append_nothing (base:Nat) (t ty e:TypeId) (i:TypeInfo) (size:Nat) (ht:P.underlying t=some (.slice e)) (hi:P.info? e=some i)
  (v:Value) (n:Nat) (xs:List Value) (hown:w.ownsRow base e size v n xs) (c:Nat):(Builtin.append_ #[t,t] ty #[v,.slice none 0 c]).run P w = .ok v w:=by
 rcases hown.2 with⟨rfl,rfl⟩ | ⟨g,cap,cur,rfl,_,_,hnc,_⟩
 ·simp [Builtin.append_,run_underlying ht,sizeOf,typeInfo,hi,Builtin.lenOf,Builtin.firstCells]
 ·simp [Builtin.append_,run_underlying ht,sizeOf,typeInfo,hi,Builtin.lenOf,Builtin.firstCells,hnc,storeCells]
theorem Y7k (base:Nat) (t ty e:TypeId) (i:TypeInfo) (z:Value) (size bytes:Nat) (ht:P.underlying t=some (.slice e)) (hi:P.info? e=some i) (hz:i.zero=some z)
  (hsize:i.size=size) (hby:i.bytes=bytes) (hzs:z.cells.size=size) (hsz:0<size)
  (v:Value) (n:Nat) (xs:List Value) (hown:w.ownsRow base e size v n xs)
  (B:Nat) (A:Option Addr) (m c:Nat) (news:List Value) (hl:news.length=m*size) (hr:Rd w B A news) (h1:∀u∈news,u.oneCell'=true)
  (h63:n+m≤maxLen) (hbytes:(n+m)*bytes≤140737488355328) (hbase:base≤w.heap.size) :
  ∃v' w',(Builtin.append_ #[t,t] ty #[v,.slice A m c]).run P w = .ok v' w'∧w'.ownsRow base e size v' (n+m) (xs++news)∧w.grownBy w' v.ownBlock ∧
   (v'.ownBlock=v.ownBlock∨v'.ownBlock=some w.heap.size):=by
 rcases A with _ | ad
 ·have hn:news=[]:=by
   rcases Decidable.em (news=[]) with h0 | h0
   ·exact h0
   ·obtain⟨ad,h,_⟩:=hr h0;cases h
  subst hn
  have hm:m=0:=by
   rcases Nat.eq_zero_or_pos m with h0 | h0
   ·exact h0
   ·have:=Nat.mul_pos h0 hsz;simp at hl;omega
  subst hm;exact⟨v,w,run_append_nothing w base t ty e i size ht hi v n xs hown c,by simpa using hown,World.grownBy.refl w _,.inl rfl⟩
 ·have hcells:∀j u,news[j]? = some u→w.cell? (ad.add j)=some u:=by
   intro j u hu;obtain⟨ad',h,_,hc⟩:=hr (fun e=>by simp [e]at hu);injection h with h
   subst h;exact hc j u hu
  obtain⟨v',w',hrun,h2,h3,_,h5⟩:=run_append_own_at (P:=P) w base t ty e i z size bytes ht hi hz hsize hby hzs hsz v n xs hown ad m c news hl hcells h1 h63 hbytes hbase;exact⟨v',w',hrun,h2,h3,h5⟩
theorem Y4l {ops:Array Oper} {rest:List Oper} {o:Oper} {a:Act} {Q:Exit→Act→World→Prop} (hgd:o.guard=none) (s x:Operand) (t:TypeId)
  (ho:o.op = .call { callee := .builtin .append,args:=#[s,x],argTypes:=#[t,t] })
  (base:Nat) (e:TypeId) {i:TypeInfo} {z:Value} {size bytes:Nat} (ht:P.underlying t=some (.slice e)) (hi:P.info? e=some i) (hz:i.zero=some z)
  (hsize:i.size=size) (hby:i.bytes=bytes) (hzs:z.cells.size=size) (hsz:0<size)
  (v:Value) (n:Nat) (xs:List Value) (hs:a.eval s=v) (hown:w.ownsRow base e size v n xs)
  (B:Nat) (A:Option Addr) (m c:Nat) (news:List Value) (hx:a.eval x = .slice A m c) (hl:news.length=m*size) (hr:Rd w B A news) (h1:∀u∈news,u.oneCell'=true)
  (h63:n+m≤maxLen) (hbytes:(n+m)*bytes≤140737488355328) (hbase:base≤w.heap.size)
  (h:∀v' w',w'.ownsRow base e size v' (n+m) (xs++news)→w.grownBy w' v.ownBlock→(v'.ownBlock=v.ownBlock∨v'.ownBlock=some w.heap.size)→Below base w w'→wpList P ops Q rest (a.put o.dst v') w'):wpList P ops Q (o::rest) a w:=
 wpList_plain hgd fun K hK=>by obtain⟨v',w',hrun,h2,h3,h4⟩:=Y7k (P:=P) w base t o.type e i z size bytes ht hi hz hsize hby hzs hsz v n xs hown B A m c news hl hr h1 h63 hbytes hbase;unfold Oper.wp execOp;simp only[ho,resolve,invoke,builtin,Sem.run_bind,Sem.run_pure,Result.andThen_ok,List.map_toArray,List.map_cons,List.map_nil,hs,hx,hrun];exact hK _ _ (h v' w' h2 h3 h4 ((Below.refl _ _).grown h3 hbase fun k hk=>(hown.lt k hk).1))
theorem Y9l {α:Type} {f:α→Value} (hf:∀x,(f x).oneCell'=true) {ops:Array Oper} {rest:List Oper} {o:Oper} {a:Act} {Q:Exit→Act→World→Prop} (hgd:o.guard=none) (s x:Operand) {t e:TypeId} {z:Value} {bytes:Nat}
  (ho:o.op = .call { callee := .builtin .append,args:=#[s,x],argTypes:=#[t,t] }) (hE:ETy P t e z 1 bytes) (hby:0<bytes)
  (base:Nat) (v:Value) (l:List α) (hs:a.eval s=v) (hown:OwL f w base e v l)
  (B:Nat) (A:Option Addr) (m c:Nat) (news:List α) (hx:a.eval x = .slice A m c) (hl:news.length=m) (hr:RL f w B A news)
  (hn:(l.length+news.length)*bytes≤140737488355328) (hbase:base≤w.heap.size)
  (h:∀v' w',OwL f w' base e v' (l++news)→w.grownBy w' v.ownBlock→(v'.ownBlock=v.ownBlock∨v'.ownBlock=some w.heap.size)→Below base w w'→wpList P ops Q rest (a.put o.dst v') w'):wpList P ops Q (o::rest) a w:=by
 obtain⟨i,hi,hz,hsz,hb⟩:=hE.info;subst hl;have hm:(l.length+news.length)*1≤(l.length+news.length)*bytes:=Nat.mul_le_mul (Z00 _) hby;refine Y4l w hgd s x t ho base e hE.sl hi hz hsz hb hE.cells hE.pos v l.length (l.map f) hs hown B A news.length c (news.map f) hx (by simp) hr (Y5a hf _) (by unfold maxLen;omega) hn hbase ?_;intro v' w' h1 h2 h3 h4;exact h v' w' (by unfold OwL;rw[Z09,Z34];exact h1) h2 h3 h4
theorem Y4x {α:Type} {f:α→Value} (hf:∀x,(f x).oneCell'=true) {ops:Array Oper} {o:Oper} {a:Act} {K:Act→World→Prop} {Q:Exit→Act→World→Prop} {E:Prop} (hgd:o.guard=none) (s x:Operand) {t e:TypeId} {z:Value} {bytes:Nat}
  (ho:o.op = .call { callee := .builtin .append,args:=#[s,x],argTypes:=#[t,t] }) (hE:ETy P t e z 1 bytes) (hby:0<bytes)
  (base:Nat) (v:Value) (l:List α) (hs:a.eval s=v) (hown:OwL f w base e v l)
  (B:Nat) (A:Option Addr) (m c:Nat) (news:List α) (hx:a.eval x = .slice A m c) (hl:news.length=m) (hr:RL f w B A news)
  (hn:(l.length+news.length)*bytes≤140737488355328) (hbase:base≤w.heap.size)
  (h:∀v' w',OwL f w' base e v' (l++news)→w.grownBy w' v.ownBlock→(v'.ownBlock=v.ownBlock∨v'.ownBlock=some w.heap.size)→Below base w w'→K (a.put o.dst v') w') :
  if Region.wanted o (yielded ops a.tmps)=true then Oper.wp P o a w K Q else E:=by
 have hw:Region.wanted o (yielded ops a.tmps)=true:=(by simp [Region.wanted,hgd]);rw[if_pos hw];obtain⟨i,hi,hz,hsz,hb⟩:=hE.info;subst hl;have hm:(l.length+news.length)*1≤(l.length+news.length)*bytes:=Nat.mul_le_mul (Z00 _) hby;obtain⟨v',w',hrun,h2,h3,h4⟩:=Y7k (P:=P) w base t o.type e i z 1 bytes hE.sl hi hz hsz hb hE.cells hE.pos v l.length (l.map f) hown B A news.length c (news.map f) (by simp) hr (Y5a hf _) (by unfold maxLen;omega) hn hbase;unfold Oper.wp execOp;simp only[ho,resolve,invoke,builtin,Sem.run_bind,Sem.run_pure,Result.andThen_ok,List.map_toArray,List.map_cons,List.map_nil,hs,hx,hrun];exact h v' w' (by unfold OwL;rw[Z09,Z34];exact h2) h3 h4 ((Below.refl _ _).grown h3 hbase fun k hk=>(World.ownsRow.lt hown k hk).1)
theorem Y5i (x:UInt8):(bV x).oneCell'=true:=rfl
theorem X9z (x:Int):(iV x).oneCell'=true:=rfl
end
def Bk (w:World) (g:Nat) (t:TypeId) (cs:Array Value):Prop:=w.heap[g]? = some (.cells cs t (0,0))
section
variable {w w':World} {g:Nat} {t:TypeId} {cs:Array Value}
theorem Bk.lt (h:Bk w g t cs):g<w.heap.size:=by
 rcases Nat.lt_or_ge g w.heap.size with hlt | hge
 ·exact hlt
 ·unfold Bk at h;rw[Array.getElem?_eq_none hge]at h;cases h
theorem Bk.cell (h:Bk w g t cs) (i:Nat):w.cell? ⟨g,i,none⟩=cs[i]? := cell_of_row w g i cs t (0,0) h
theorem Bk.frz (h:Bk w g t cs) (i:Nat):w.frozen? ⟨g,i,none⟩=false:=by
 unfold Bk at h;simp [World.frozen?,h]
theorem Bk.new (w:World) (t:TypeId) (cs:Array Value):Bk (w.alloc (.cells cs t)) w.heap.size t cs:=heap_alloc_new w _
theorem Bk.newAt {g:Nat} (w:World) (t:TypeId) (cs:Array Value) (hg:w.heap.size=g):Bk (w.alloc (.cells cs t)) g t cs:=by subst hg;exact Bk.new w t cs
theorem Bk.drewN (h:Bk w g t cs) (n:Nat):Bk (w.drewN n) g t cs:=h
theorem Bk.alloc (h:Bk w g t cs) (o:Obj):Bk (w.alloc o) g t cs:=(Below.heap_alloc w o g h.lt).trans h
theorem Bk.set (h:Bk w g t cs) (i:Nat) (u:Value):Bk (w.setCell ⟨g,i,none⟩ u) g t (cs.setIfInBounds i u):=by
 unfold Bk at h ⊢;simp [World.setCell,Array.getElem?_modify,h]
theorem Bk.far (h:Bk w g t cs) {p:Addr} (hp:g≠p.block) (u:Value):Bk (w.setCell p u) g t cs:=(Below.heap_setCell w p u g hp).trans h
theorem Bk.below {B:Nat} (h:Bk w g t cs) (hb:Below B w w') (hg:g<B):Bk w' g t cs:=(hb.block g hg).trans h
theorem Bk.grown {row:Option Nat} (h:Bk w g t cs) (hb:w.grownBy w' row) (hg:some g≠row):Bk w' g t cs:=(hb.block g h.lt hg).trans h
end
theorem Y8i {a w:World} {row:Option Nat} (h:a.grownBy w row) (n:Nat):a.grownBy (w.drewN n) row:=⟨h.os,h.tape,h.output,h.size,h.block⟩
theorem Y6y {a w:World} {g:Nat} (h:a.grownBy w (some g)) (o:Nat) (u:Value):a.grownBy (w.setCell ⟨g,o,none⟩ u) (some g):=
 ⟨h.os,h.tape,h.output,by simpa [World.setCell] using h.size,fun i hi hne=>(Below.heap_setCell w ⟨g,o,none⟩ u i (fun e=>hne (by rw[e]))).trans (h.block i hi hne)⟩
theorem X8v {a w:World} (h:Below a.heap.size a w) (row:Option Nat):a.grownBy w row:=⟨h.os,h.tape,h.output,h.size,fun i hi _=>h.block i hi⟩
theorem X2d {a b c:World} {row:Option Nat} (h:a.grownBy b row) (k:b.grownBy c row):a.grownBy c row:=
 ⟨k.os.trans h.os,k.tape.trans h.tape,k.output.trans h.output,Z08 h.size k.size,fun i hi hne=>(k.block i (Z07 hi h.size) hne).trans (h.block i hi hne)⟩
theorem X6a {a b c:World} {row:Option Nat} (h:a.grownBy b row) (k:Below b.heap.size b c):a.grownBy c row:=X2d h (X8v k row)
theorem Y5u {P:Program} {f:FuncId} {args:Array Value} {w:World} {n:Nat} {v:Value}
  (h:Calls P f args (w.drewN n) fun e w'=>e = .returned v∧w.drewN n=w'):Calls P f args (w.drewN n) fun e w''=>e = .returned v∧∃m,w''=w.drewN m:=
 h.mono fun _ _ ⟨he,hm⟩=>⟨he,n,hm.symm⟩
theorem ret_v {v v':Value} (h:v=v'):Ending.returned v=Ending.returned v':=by rw[h]
theorem Y9z {B:Nat} {a w:World} (h:Below B a w) (hB:B≤a.heap.size) (o:Obj):Below B a (w.alloc o):=h.alloc (Z08 hB h.size) o
theorem below_drewN {B:Nat} {a w:World} (h:Below B a w) (n:Nat):Below B a (w.drewN n):=⟨h.os,h.tape,h.output,h.size,h.block⟩
theorem RL.news {α:Type} {f:α→Value} (w:World) (l:List α) (cs:Array Value) (h:cs.toList=l.map f) (e:TypeId) (fr:Nat×Nat):RL f (w.alloc (.cells cs e fr)) (w.heap.size+1) (some ⟨w.heap.size,0,none⟩) l:=fun _=>
 ⟨_,rfl,Z38 _,fun i u hu=>by
  have e:(⟨w.heap.size,0,none⟩:Addr).add i=⟨w.heap.size,i,none⟩:=by unfold Addr.add;split <;> simp_all
  rw[e,World.cell?_alloc_mark,←Array.getElem?_toList,h];exact hu⟩
end Go.Proofs.YtpmfiegfbmamiaaDoor
