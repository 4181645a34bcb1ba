/- A region that draws its order: each operation's answer owns blocks of its own; one other operation may use them up; whatever the order. Nothing here speaks of the program. -/
import Derived.Test.YtpmfiegfbmamiaaDoorPm5
namespace Go.Proofs.YtpmfiegfbmamiaaDoor
open Go.RowKit
def putsL (l:List Oper) (v:Nat→Value) (a:Act):List Nat→Act
 | []=>a
 | i::r=>(putsL l v a r).put ((l[i]?).bind (·.dst)) (v i)
def putsD (l:List Oper) (d:Nat→Bool) (v:Nat→Value) (a:Act):Nat→Act
 | 0=>a
 | k+1=>if d k then (putsD l d v a k).put ((l[k]?).bind (·.dst)) (v k) else putsD l d v a k
theorem Y6u {l:List Oper} {d d':Nat→Bool} {v v':Nat→Value} {a:Act}:∀k,(∀i,i<k→d' i=d i∧v' i=v i)→putsD l d' v' a k=putsD l d v a k:=by
 intro k
 induction k with
 | zero=>intro _;rfl
 | succ k ih=>intro h;unfold putsD;rw[ih (fun i hi=>h i (by omega)),(h k (by omega)).1,(h k (by omega)).2]
def dstOf (l:List Oper) (i:Nat):Option Tmp:=(l[i]?).bind (·.dst)
def distinctD (l:List Oper):Prop:=∀i j,i<l.length→j<l.length→i≠j→∀t,dstOf l i=some t→dstOf l j≠some t
theorem X4o {l:List Oper} {d d':Nat→Bool} {v v':Nat→Value} {a:Act} {j:Nat} (hdis:distinctD l) (hj:j<l.length) (hdj:d j=false) (hd:∀i,d' i=(d i||i==j)) (hv:∀i,i≠j→v' i=v i) :
  ∀k,j<k→k≤l.length→putsD l d' v' a k=(putsD l d v a k).put (dstOf l j) (v' j):=by
 intro k
 induction k with
 | zero=>intro h;omega
 | succ k ih=>
  intro hjk hk;unfold putsD;by_cases e:j=k
  ·subst e
   rw[hd j,hdj];simp only[Bool.false_or,beq_self_eq_true,if_true,Bool.false_eq_true,if_false];rw[Y6u (d:=d) (v:=v) j (fun i hi=>⟨by rw[hd i];simp;omega,hv i (by omega)⟩)]
   rfl
  ·rw[ih (by omega) (by omega),hd k]
   have:(k==j)=false:=by simp;omega
   rw[this,Bool.or_false];cases hdk:d k with
   | false=>simp
   | true=>simp only[if_true];rw[hv k (fun h=>e h.symm)];exact Act.put_comm _ _ _ (fun t ht=>hdis j k (by omega) (by omega) e t ht)
theorem X7f {l:List Oper} {v:Nat→Value} {a:Act}:∀k,putsD l (fun _=>false) v a k=a:=by
 intro k
 induction k with
 | zero=>rfl
 | succ k ih=>unfold putsD;simpa using ih
theorem Y6d {l:List Oper} {d:Nat→Bool} {v:Nat→Value} {a:Act}:∀k,(putsD l d v a k).tmps.size=a.tmps.size:=by
 intro k
 induction k with
 | zero=>rfl
 | succ k ih=>
  unfold putsD
  split
  ·rw[←ih];unfold Act.put;cases (l[k]?).bind (·.dst) <;> simp
  ·exact ih
theorem Y4i {l:List Oper} {v:Nat→Value} {a:Act}:∀ds,(putsL l v a ds).tmps.size=a.tmps.size:=by
 intro ds
 induction ds with
 | nil=>rfl
 | cons i r ih=>unfold putsL;rw[←ih];unfold Act.put;cases (l[i]?).bind (·.dst) <;> simp
theorem Y8c {a:Act} {t:Tmp} {v:Value} (h:t<a.tmps.size):(a.put (some t) v).eval (.tmp t)=v:=by
 simp [Act.put,Act.eval,h]
theorem X6e {l:List Oper} {d:Nat→Bool} {v:Nat→Value} {a:Act} {i:Nat} {t:Tmp} (hdis:distinctD l) (hi:i<l.length) (hd:d i=true) (ht:dstOf l i=some t) (hs:t<a.tmps.size) :
  ∀k,i<k→k≤l.length→(putsD l d v a k).eval (.tmp t)=v i:=by
 intro k
 induction k with
 | zero=>intro h;omega
 | succ k ih=>
  intro hik hk;unfold putsD;by_cases e:i=k
  ·subst e
   rw[hd,if_pos rfl,show (l[i]?).bind (·.dst)=some t from ht];exact Y8c (by rw[Y6d];exact hs)
  ·cases hdk:d k with
   | false=>simp only[Bool.false_eq_true,if_false];exact ih (by omega) (by omega)
   | true=>
    simp only[if_true]
    rw[Act.eval_put (fun t' ht'=>by
     intro h;injection h with h;subst h
     exact hdis i k hi (by omega) e _ ht ht')]
    exact ih (by omega) (by omega)
theorem X7u {l:List Oper} {d:Nat→Bool} {v:Nat→Value} {a:Act} {x:Operand}:∀k,(∀i,i<k→d i=true→∀t,dstOf l i=some t→x ≠ .tmp t)→(putsD l d v a k).eval x=a.eval x:=by
 intro k
 induction k with
 | zero=>intro _;rfl
 | succ k ih=>
  intro h;unfold putsD;cases hdk:d k with
  | false=>simp only[Bool.false_eq_true,if_false];exact ih (fun i hi=>h i (by omega))
  | true=>
   simp only[if_true]
   exact(Act.eval_put (dst:=(l[k]?).bind (·.dst)) (fun t ht=>h k (by omega) hdk t ht)).trans (ih (fun i hi=>h i (by omega)))
theorem X5t {l:List Oper} {v:Nat→Value} {a:Act} {i:Nat} {t:Tmp} (hdis:distinctD l) (ht:dstOf l i=some t) (hs:t<a.tmps.size) :
  ∀ds:List Nat,(∀j∈ds,j<l.length)→i∈ds→(putsL l v a ds).eval (.tmp t)=v i:=by
 intro ds
 induction ds with
 | nil=>intro _ h;cases h
 | cons k r ih=>
  intro hb hi;unfold putsL;by_cases e:i=k
  ·subst e
   rw[show (l[i]?).bind (·.dst)=some t from ht];exact Y8c (by rw[Y4i];exact hs)
  ·have hir:i∈r:=by rcases Z23.1 hi with h | h;exact absurd h e;exact h
   rw[Act.eval_put (fun t' ht'=>by
    intro h;injection h with h;subst h
    exact hdis i k (hb i hi) (hb k (by simp)) e _ ht ht')]
   exact ih (fun j hj=>hb j (List.mem_cons_of_mem _ hj)) hir
theorem X7j {l:List Oper} {v:Nat→Value} {a:Act} {x:Operand}:∀ds:List Nat,(∀i∈ds,∀t,dstOf l i=some t→x ≠ .tmp t)→(putsL l v a ds).eval x=a.eval x:=by
 intro ds
 induction ds with
 | nil=>intro _;rfl
 | cons k r ih=>
  intro h;unfold putsL
  exact(Act.eval_put (dst:=(l[k]?).bind (·.dst)) (fun t ht=>h k (by simp) t ht)).trans (ih (fun i hi=>h i (List.mem_cons_of_mem _ hi)))
def putsF (dst:Nat→Option Tmp) (v:Nat→Value) (a:Act):List Nat→Act
 | []=>a
 | i::r=>(putsF dst v a r).put (dst i) (v i)
theorem X0w {l:List Oper} {dst:Nat→Option Tmp} {v:Nat→Value} {a:Act}:∀ds:List Nat,(∀i∈ds,dst i=dstOf l i)→putsF dst v a ds=putsL l v a ds:=by
 intro ds
 induction ds with
 | nil=>intro _;rfl
 | cons i r ih=>
  intro h;unfold putsF putsL;rw[ih (fun j hj=>h j (List.mem_cons_of_mem _ hj)),h i (by simp)]
  rfl
theorem X5p {l:List Oper} {dst:Nat→Option Tmp} {v:Nat→Value} {a:Act}:∀k,(∀i,i<k→dst i=dstOf l i)→putsD l (fun _=>true) v a k=putsF dst v a (List.range k).reverse:=by
 intro k
 induction k with
 | zero=>intro _;rfl
 | succ k ih=>
  intro h;rw[List.range_succ,List.reverse_append];show putsD l (fun _=>true) v a (k+1)=(putsF dst v a (List.range k).reverse).put (dst k) (v k);rw[←ih (fun i hi=>h i (by omega)),h k (by omega)]
  conv=>lhs;unfold putsD
  exact if_pos rfl
def Live (F:Value→(Nat→Prop)→World→Prop) (v:Value) (S:Nat→Prop) (w:World):Prop:=
 ∃w1,F v S w1∧(∀k,S k→k<w1.heap.size)∧Ch w1 w (fun k=>¬S k)
theorem Live.ch {F:Value→(Nat→Prop)→World→Prop} {v:Value} {S U:Nat→Prop} {w w':World} (h:Live F v S w) (c:Ch w w' U) (hd:∀k,S k→¬U k):Live F v S w':=by
 obtain⟨w1,h1,h2,h3⟩:=h;exact⟨w1,h1,h2,h3.trans c (fun k _ hu hs=>hd k hs hu)⟩
theorem Live.lt {F:Value→(Nat→Prop)→World→Prop} {v:Value} {S:Nat→Prop} {w:World} (h:Live F v S w) {k:Nat} (hk:S k):k<w.heap.size:=by
 obtain⟨w1,_,h2,h3⟩:=h;exact Z07 (h2 k hk) h3.size
def StepR (P:Program) (dst:Nat→Option Tmp) (F:Nat→Value→(Nat→Prop)→World→Prop) (cons:Nat→Nat) (U:Nat→Prop) (w0:World) (a0:Act) (ds us:List Nat) (j:Nat) (o:Oper):Prop:=
 ∀(v:Nat→Value) (S:Nat→Nat→Prop) (w:World),Ch w0 w U→(∀i∈us,Live (F i) (v i) (S i) w)→(∀i∈us,∀k,S i k→U k∨w0.heap.size≤k)→(∀i∈us,∀i'∈us,i≠i'→∀k,S i k→¬S i' k) →
  ∀Q:Exit→Act→World→Prop,(∀x T w' a,a=(putsF dst v a0 ds).put o.dst x→F j x T w'→(∀k,T k→k<w'.heap.size)→Ch w w' (fun k=>∃i,i∈us∧cons i=j∧S i k)→(∀k,T k→(∃i,i∈us∧cons i=j∧S i k)∨w.heap.size≤k)→Q .normal a w') →
   wpList P #[] Q [o] (putsF dst v a0 ds) w
def StepsR (P:Program) (dst:Nat→Option Tmp) (F:Nat→Value→(Nat→Prop)→World→Prop) (cons:Nat→Nat) (U:Nat→Prop) (w0:World) (a0:Act) (D I:List (List Nat)):Nat→List Oper→Prop
 | _,[]=>True
 | j,o::r=>StepR P dst F cons U w0 a0 (D.getD j []) (D.getD j []++I.getD j []) j o∧StepsR P dst F cons U w0 a0 D I (j+1) r
theorem StepsR.at_ {P:Program} {dst:Nat→Option Tmp} {F:Nat→Value→(Nat→Prop)→World→Prop} {cons:Nat→Nat} {U:Nat→Prop} {w0:World} {a0:Act} {D I:List (List Nat)}:∀(r:List Oper) (j:Nat),StepsR P dst F cons U w0 a0 D I j r→∀k o,r[k]? = some o→StepR P dst F cons U w0 a0 (D.getD (j+k) []) (D.getD (j+k) []++I.getD (j+k) []) (j+k) o:=by
 intro r
 induction r with
 | nil=>intro j _ k o h;simp at h
 | cons o' r ih=>
  intro j h k o hk;cases k with
  | zero=>simp at hk;subst hk;exact h.1
  | succ k=>have:=ih (j+1) h.2 k o (by simpa using hk);rwa [show j+1+k=j+(k+1) by omega]at this
def bindsB (o:Oper) (i:Nat):Bool:=o.after.any fun e=>Region.binds .any e&&e.on==i
def goodB (l:List Oper) (D I:List (List Nat)) (cons:Nat→Nat) (sz:Nat):Bool:=
 (List.range l.length).all fun j=>
  match l[j]? with
  | none=>false
  | some o=>
   o.guard.isNone&&(match o.op with | .select _ _=>false | _=>true) &&
   (match o.dst with | some t=>decide (t<sz) | none=>true) &&
   (o.after.all fun e => !Region.binds .any e||decide (e.on<j)) &&
   ((List.range l.length).all fun i=>i==j||(match dstOf l i,dstOf l j with | some t,some t' => !(t==t') | _,_=>true)) &&
   ((D.getD j []).all fun i=>decide (i<l.length)&&bindsB o i&&(cons i==j||decide (l.length<cons i))) &&
   ((I.getD j []).all fun i=>i==l.length&&cons i==j) &&
   ((List.range (l.length+1)).all fun i => !(cons i==j)||(D.getD j []++I.getD j []).contains i) &&
   (o.op.operands.toList.all fun x=>match x with | .tmp t=>(List.range l.length).all fun i => !(dstOf l i==some t)||(D.getD j []).contains i||(match l[i]? with | some oi=>bindsB oi j | none=>false) | _=>true)
section
variable {P:Program} {Q:Exit→Act→World→Prop}
theorem X4d {a a':Act} {dst:Option Tmp} {v x:Value} (hs:a.tmps.size=a'.tmps.size) (h:∀t,dst=some t→t<a.tmps.size) (e:a'.put dst v=a'.put dst x):a.put dst v=a.put dst x:=by
 cases dst with
 | none=>rfl
 | some t=>have ht:=h t rfl;have h1:=Y8c (a:=a') (t:=t) (v:=v) (hs ▸ ht);have h2:=Y8c (a:=a') (t:=t) (v:=x) (hs ▸ ht);rw[e,h2]at h1;rw[h1]
theorem Y3n {o:Oper} {a':Act} {w:World} {R:Value→World→Prop} (hg:o.guard=none)
  (h:wpList P #[] (fun e a'' w'=>e = .normal∧∃x,R x w'∧a''=a'.put o.dst x) [o] a' w):OpAns P o a'.eval w (fun v w'=>∃x,R x w'∧a'.put o.dst v=a'.put o.dst x):=by
 unfold wpList at h;rw[if_pos (by simp [Region.wanted,hg])]at h;rcases h with h | ⟨_,_,_,h⟩
 ·unfold Oper.wp at h
  unfold OpAns;generalize (execOp a'.eval o).run P w=r at *;cases r with
  | ok n w'=>
   cases n <;> simp only[Oper.upon]at h ⊢
   case value v=>exact h.2
   case skip=>exact h.2
   case defer d=>
    obtain⟨_,x,_,e⟩:=h
    have:=congrArg (fun a:Act=>a.defers.length) e
    exact absurd this (by unfold Act.put;cases o.dst <;> simp)
   case enter f args=>
    refine h.mono fun e w'' he=>?_;cases e with
    | returned v=>exact⟨v,rfl,he.2⟩
    | panicked c=>exact absurd he.1 (by simp)
    | outgrown=>obtain⟨_,_,h1,_⟩:=he;exact absurd h1 (by simp)
   case row row args=>exact h.mono fun v w'' he=>he.2
  | halt x w'=>
   cases x <;> simp only[Oper.upon]at h
   case panic u=>exact absurd h.1 (by simp)
 ·exact absurd h (by simp)
theorem Y5t {l:List Oper} {D I:List (List Nat)} {cons:Nat→Nat} {sz j:Nat} {o:Oper} (h:goodB l D I cons sz=true) (hj:l[j]? = some o) :
  o.guard=none∧(∀cs b,o.op ≠ .select cs b)∧(∀t,o.dst=some t→t<sz)∧(∀e∈o.after,Region.binds .any e=true→e.on<j) ∧
   (∀i,i<l.length→i≠j→∀t,dstOf l i=some t→dstOf l j≠some t) ∧
   (∀i∈D.getD j [],i<l.length∧bindsB o i=true∧(cons i=j∨l.length<cons i))∧(∀i∈I.getD j [],i=l.length∧cons i=j) ∧
   (∀i,i≤l.length→cons i=j→i∈D.getD j []++I.getD j []) ∧
   (∀x∈o.op.operands,∀t,x = .tmp t→∀i,i<l.length→dstOf l i=some t→i∈D.getD j []∨∃oi,l[i]? = some oi∧bindsB oi j=true):=by
 have hjl:j<l.length:=(Z24.1 hj).1;unfold goodB at h;have h:=Z31.1 h j (Z39.2 hjl);simp only[hj,Z20]at h;obtain⟨⟨⟨⟨⟨⟨⟨⟨h1,h2⟩,h3⟩,h4⟩,h5⟩,h6⟩,h7⟩,h8⟩,h9⟩:=h;refine⟨by simpa using h1,?_,?_,?_,?_,?_,?_,?_,?_⟩
 ·intro cs b e
  rw[e]at h2;simp at h2
 ·intro t e
  rw[e]at h3
  simpa using h3
 ·intro e he hb
  have:=Array.all_eq_true_iff_forall_mem.1 h4 e he
  simpa [hb] using this
 ·intro i hi hij t ht ht'
  have:=Z31.1 h5 i (Z39.2 hi)
  rw[ht,ht']at this;simp [hij]at this
 ·intro i hi
  have:=Z31.1 h6 i hi
  simp only[Z20,Bool.or_eq_true,decide_eq_true_eq,beq_iff_eq]at this;exact⟨this.1.1,this.1.2,this.2⟩
 ·intro i hi
  have:=Z31.1 h7 i hi
  simpa using this
 ·intro i hi hc
  have:=Z31.1 h8 i (Z39.2 (by omega))
  rw[List.contains_eq_mem]at this
  simpa [hc] using this
 ·intro x hx t e i hi ht
  have:=Z31.1 h9 x (by simpa using hx)
  subst e
  have:=Z31.1 this i (Z39.2 hi)
  rw[List.contains_eq_mem]at this;simp only[ht,beq_self_eq_true,Bool.not_true,Bool.false_or,Bool.or_eq_true,decide_eq_true_eq]at this;rcases this with h | h
  ·exact .inl h
  ·right
   cases ho:l[i]? with
   | none=>rw[ho]at h;cases h
   | some oi=>rw[ho]at h;exact⟨oi,rfl,h⟩
theorem Y4v {l:List Oper} {D I:List (List Nat)} {cons:Nat→Nat} {sz:Nat} (h:goodB l D I cons sz=true):distinctD l:=by
 intro i j hi hj hij t ht;have hj':l[j]? = some l[j]:=Z33 hj
 exact(Y5t h hj').2.2.2.2.1 i hi hij t ht
theorem OpAns.of_eval {o:Oper} {ev ev':Operand→Value} {w:World} {R:Value→World→Prop} (h:OpAns P o ev w R) (e:execOp ev o=execOp ev' o):OpAns P o ev' w R:=by
 unfold OpAns at *
 rwa [←e]
theorem Y3g {l:List Oper} {id:Nat} {a0:Act} {w0:World} (hm:P.follows .mixedOrders=true) (dst:Nat→Option Tmp) (hdst:((List.range l.length).all fun i=>dst i==dstOf l i)=true) (F:Nat→Value→(Nat→Prop)→World→Prop) (cons:Nat→Nat) (U:Nat→Prop) (D I:List (List Nat)) (hgood:goodB l D I cons a0.tmps.size=true)
  (v0:Value) (S0:Nat→Prop) (h0:F l.length v0 S0 w0) (h0l:∀k,S0 k→k<w0.heap.size) (h0U:∀k,S0 k→U k)
  (hsteps:StepsR P dst F cons U w0 a0 D I 0 l)
  (hend:∀(v:Nat→Value) (S:Nat→Nat→Prop) (w:World),Ch w0 w U→(∀i,i≤l.length→l.length<cons i→Live (F i) (v i) (S i) w∧∀k,S i k→U k∨w0.heap.size≤k) →
   (∀i i',i≤l.length→i'≤l.length→l.length<cons i→l.length<cons i'→i≠i'→∀k,S i k→¬S i' k)→Q .normal (putsF dst v a0 (List.range l.length).reverse) w) :
  (Code.region id l.toArray true).wp P Q a0 w0:=by
 have hdis:=Y4v hgood;have hds':∀i,i<l.length→dst i=dstOf l i:=fun i hi=>by simpa using Z31.1 hdst i (Z39.2 hi)
 refine wp_region_any hm ?_
 refine X3g (ops:=l.toArray) (I:=fun d a w=>(∀i oi,l[i]? = some oi→d i=true→∀e∈oi.after,Region.binds .any e=true→d e.on=true)∧∃(v:Nat→Value) (S:Nat→Nat→Prop),(∀i,l.length≤i→d i=false)∧a=putsD l d v a0 l.length∧Ch w0 w U ∧
   (∀i,i≤l.length→(i=l.length∨d i=true)→d (cons i)=false→Live (F i) (v i) (S i) w∧∀k,S i k→U k∨w0.heap.size≤k) ∧
   (∀i i',i≤l.length→i'≤l.length→(i=l.length∨d i=true)→(i'=l.length∨d i'=true)→d (cons i)=false→d (cons i')=false→i≠i'→∀k,S i k→¬S i' k)) ?_ ?_ ?_ _ _ _ _ ?_ ?_ ?_
 ·intro j o hj e he hb
  exact(Y5t hgood (by simpa using hj)).2.2.2.1 e he hb
 ·rintro d j o a w hj hdj hdb hdep ⟨Qr,v,S,_,rfl,HC,HL,HD⟩
  have hj:l[j]? = some o:=(by simpa using hj);have hjl:j<l.length:=(Z24.1 hj).1;have hdst:dstOf l j=o.dst:=by unfold dstOf;rw[hj];rfl
  have hdb:∀i,l.length≤i→d i=false:=fun i hi=>hdb i (by simpa using hi);obtain⟨g1,g2,g3,g4,g5,g6,g7,g8,g9⟩:=Y5t hgood hj
  have hds:∀i∈D.getD j [],i<l.length∧d i=true∧d (cons i)=false:=by
   intro i hi;obtain⟨q1,q2,q3⟩:=g6 i hi;refine⟨q1,?_,?_⟩
   ·unfold bindsB at q2
    rw[←Array.any_toList,List.any_eq_true]at q2;obtain⟨e,he,q⟩:=q2;have he:e∈o.after:=(by simpa using he);simp only[Z20,beq_iff_eq]at q
    have:=hdep e he q.1
    rwa [q.2]at this
   ·rcases q3 with q3 | q3
    ·rw[q3];exact hdj
    ·exact hdb _ (by omega)
  have hus:∀i∈D.getD j []++I.getD j [],i≤l.length∧(i=l.length∨d i=true)∧d (cons i)=false:=by
   intro i hi;rcases Z41.1 hi with hi | hi
   ·obtain⟨q1,q2,q3⟩:=hds i hi
    exact⟨by omega,.inr q2,q3⟩
   ·obtain⟨q1,q2⟩:=g7 i hi
    exact⟨by omega,.inl q1,by rw[q2];exact hdj⟩
  have hst:=StepsR.at_ l 0 hsteps j o hj;rw[Z22]at hst;have hpf:putsF dst v a0 (D.getD j [])=putsL l v a0 (D.getD j []):=X0w (D.getD j []) (fun i hi=>hds' i (hds i hi).1)
  have h1:=hst v S w HC (fun i hi=>(HL i (hus i hi).1 (hus i hi).2.1 (hus i hi).2.2).1) (fun i hi=>(HL i (hus i hi).1 (hus i hi).2.1 (hus i hi).2.2).2)
   (fun i hi i' hi' hne=>HD i i' (hus i hi).1 (hus i' hi').1 (hus i hi).2.1 (hus i' hi').2.1 (hus i hi).2.2 (hus i' hi').2.2 hne)
   (fun e a'' w'=>e = .normal∧∃x,(∃T,F j x T w'∧(∀k,T k→k<w'.heap.size)∧Ch w w' (fun k=>∃i,i∈D.getD j []++I.getD j []∧cons i=j∧S i k)∧(∀k,T k→(∃i,i∈D.getD j []++I.getD j []∧cons i=j∧S i k)∨w.heap.size≤k))∧a''=(putsL l v a0 (D.getD j [])).put o.dst x)
   (fun x T w' a' pa p1 p2 p3 p4=>⟨rfl,x,⟨T,p1,p2,p3,p4⟩,by rw[pa,hpf]⟩)
  rw[hpf]at h1;have h2:=Y3n (R:=fun x w'=>∃T,F j x T w'∧(∀k,T k→k<w'.heap.size)∧Ch w w' (fun k=>∃i,i∈D.getD j []++I.getD j []∧cons i=j∧S i k)∧(∀k,T k→(∃i,i∈D.getD j []++I.getD j []∧cons i=j∧S i k)∨w.heap.size≤k)) g1 h1
  have hev:execOp (putsL l v a0 (D.getD j [])).eval o=execOp (putsD l d v a0 l.length).eval o:=by
   refine execOp_congr o g2 fun x hx=>?_;by_cases hx2:∃t i,x = .tmp t∧i<l.length∧dstOf l i=some t∧d i=true
   ·obtain⟨t,i,rfl,hi,ht,hdi⟩:=hx2
    have hiD:i∈D.getD j []:=by
     rcases g9 _ hx t rfl i hi ht with h | ⟨oi,ho,hb⟩
     ·exact h
     ·unfold bindsB at hb
      rw[←Array.any_toList,List.any_eq_true]at hb;obtain⟨e,he,q⟩:=hb;simp only[Z20,beq_iff_eq]at q
      have:=Qr i oi ho hdi e (by simpa using he) q.1
      rw[q.2,hdj]at this;cases this
    have hts:t<a0.tmps.size:=(Y5t hgood (Z33 hi)).2.2.1 t (by unfold dstOf at ht;rw[Z33 hi]at ht;exact ht);rw[X5t hdis ht hts _ (fun k hk=>(hds k hk).1) hiD,X6e hdis hi (hds i hiD).2.1 ht hts _ hi (Z00 _)]
   ·rw[X7j _ (fun i hi t ht e=>hx2 ⟨t,i,e,(hds i hi).1,ht,(hds i hi).2.1⟩),X7u _ (fun i hi hdi t ht e=>hx2 ⟨t,i,e,hi,ht,hdi⟩)]
  refine W9r (by simpa using hj) g1 ((h2.of_eval hev).mono ?_);rintro u w' ⟨x,⟨T,p1,p2,p3,p4⟩,pe⟩;have pe2:=X4d (a:=putsD l d v a0 l.length) (a':=putsL l v a0 (D.getD j [])) (by rw[Y6d,Y4i]) (fun t ht=>by rw[Y6d];exact g3 t ht) pe;rw[pe2];have hcu:∀i k,i∈D.getD j []++I.getD j []→S i k→U k∨w0.heap.size≤k:=fun i k hi=>(HL i (hus i hi).1 (hus i hi).2.1 (hus i hi).2.2).2 k
  have hap:∀i,i≤l.length→(i=l.length∨d i=true)→d (cons i)=false→cons i≠j→∀k,S i k→¬∃i',i'∈D.getD j []++I.getD j []∧cons i'=j∧S i' k:=by
   rintro i hi hl hc hcj k hk ⟨i',hi',hc',hk'⟩;have hne:i≠i':=by rintro rfl;exact hcj hc'
   exact HD i i' hi (hus i' hi').1 hl (hus i' hi').2.1 hc (hus i' hi').2.2 hne k hk hk'
  have hor:∀i,i≠j→(i=l.length∨(d i||i==j)=true)→(i=l.length∨d i=true):=by
   intro i hi h
   have:(i==j)=false:=by simpa using hi
   rwa [this,Bool.or_false]at h
  have hcf:∀i,(d (cons i)||cons i==j)=false→d (cons i)=false∧cons i≠j:=by
   intro i h
   simpa using h
  refine⟨fun i oi ho hi e he hb=>?_,fun i=>if i=j then x else v i,fun i=>if i=j then T else S i,?_,?_,?_,?_,?_⟩
  ·have hi:(d i||i==j)=true:=hi
   show (d e.on||e.on==j)=true;rw[Bool.or_eq_true]at hi ⊢;rcases hi with hi | hi
   ·exact .inl (Qr i oi ho hi e he hb)
   ·have hij:i=j:=by simpa using hi
    subst hij
    have:o=oi:=by have:=hj.symm.trans ho;injection this
    subst this;exact .inl (hdep e he hb)
  ·intro i hi
   have:(i==j)=false:=by simp;omega
   show (d i||i==j)=false;rw[this,hdb i hi];rfl
  ·have:=X4o (l:=l) (d:=d) (d':=fun i=>d i||i==j) (v:=v) (v':=fun i=>if i=j then x else v i) (a:=a0) (j:=j) hdis hjl hdj (fun _=>rfl) (fun i hi=>by simp [hi]) l.length hjl (Z00 _)
   rw[this,hdst]
   simp
  ·exact HC.trans p3 (fun k hk ⟨i,hi,_,hs⟩=>by
    rcases hcu i k hi hs with h | h
    ·exact h
    ·omega)
  ·intro i hi hl hc
   obtain⟨hc1,hc2⟩:=hcf i hc;by_cases e:i=j
   ·subst e
    simp only[if_true];refine⟨⟨w',p1,p2,Ch.refl _⟩,fun k hk=>?_⟩;rcases p4 k hk with⟨i',hi',_,hs⟩ | h
    ·exact hcu i' k hi' hs
    ·have:=HC.size;exact .inr (by omega)
   ·simp only[if_neg e]
    have hl:=hor i e hl;exact⟨(HL i hi hl hc1).1.ch p3 (hap i hi hl hc1 hc2),(HL i hi hl hc1).2⟩
  ·have side:∀i,i≤l.length→i≠j→(i=l.length∨(d i||i==j)=true)→(d (cons i)||cons i==j)=false→∀k,T k→¬S i k:=by
    intro i hi e hl hc k hk hs;obtain⟨hc1,hc2⟩:=hcf i hc;have hl:=hor i e hl;rcases p4 k hk with h | h
    ·exact hap i hi hl hc1 hc2 k hs h
    ·have:=(HL i hi hl hc1).1.lt hs;omega
   intro i i' hi hi' hl hl' hc hc' hne k;by_cases e:i=j
   ·have e':i'≠j:=fun h=>hne (e.trans h.symm)
    simp only[if_pos e,if_neg e'];exact side i' hi' e' hl' hc' k
   ·by_cases e':i'=j
    ·simp only[if_neg e,if_pos e']
     exact fun hs ht=>side i hi e hl hc k ht hs
    ·simp only[if_neg e,if_neg e']
     exact HD i i' hi hi' (hor i e hl) (hor i' e' hl') (hcf i hc).1 (hcf i' hc').1 hne k
 ·rintro d a w hd ⟨_,v,S,hdb,rfl,HC,HL,HD⟩
  have hd:∀j,j<l.length→d j=true:=fun j hj=>hd j (by simpa using hj)
  have hor:∀i,i≤l.length→(i=l.length∨d i=true):=fun i hi=>by
   rcases Nat.lt_or_eq_of_le hi with h | h
   ·exact .inr (hd i h)
   ·exact .inl h
  rw[←Y6u (d:=d) (d':=fun _=>true) (v:=v) (v':=v) l.length (fun i hi=>⟨(hd i hi).symm,rfl⟩),X5p l.length hds'];exact hend v S w HC (fun i hi hc=>HL i hi (hor i hi) (hdb _ (by omega))) (fun i i' hi hi' hc hc'=>HD i i' hi hi' (hor i hi) (hor i' hi') (hdb _ (by omega)) (hdb _ (by omega)))
 ·simp
 ·intro L hn hm'
  have:∀i∈L,i<l.length:=by
   intro i hi
   have:=hm' i hi
   by_cases h:i<l.length
   ·exact h
   ·simp [Array.getD,h]at this
  have hsub:=List.Nodup.length_le_of_subset hn (show L ⊆ List.range l.length from fun i hi=>Z39.2 (this i hi))
  simpa using hsub
 ·refine⟨fun i oi _ hi=>by simp [Array.getD]at hi,fun _=>v0,fun i=>if i=l.length then S0 else fun _=>False,?_,?_,(Ch.refl w0).drewN 1,?_,?_⟩
  ·intro i hi
   simp [Array.getD]
  ·rw[Y6u (d:=fun _=>false) (v:=fun _=>v0) l.length (fun i hi=>⟨by simp [Array.getD],rfl⟩)]
   exact(X7f l.length).symm
  ·intro i hi hl _
   have e:i=l.length:=by
    rcases hl with e | e
    ·exact e
    ·simp [Array.getD]at e
   subst e;simp only[if_true];exact⟨⟨w0,h0,h0l,(Ch.refl w0).drewN 1⟩,fun k hk => .inl (h0U k hk)⟩
  ·intro i i' hi hi' hl hl' _ _ hne
   have e:∀i,(i=l.length∨(Array.replicate l.toArray.size false).getD i false=true)→i=l.length:=fun i hl=>by
    rcases hl with e | e
    ·exact e
    ·simp [Array.getD]at e
   exact absurd ((e i hl).trans (e i' hl').symm) hne
end
end Go.Proofs.YtpmfiegfbmamiaaDoor
