/- What answers own in a drawn region: nothing, a new row, a struct with a growing row; how a step of the rule ends. -/
import Derived.Test.YtpmfiegfbmamiaaDoorPm20
import Derived.Test.YtpmfiegfbmamiaaDoorPm3
import Derived.Test.YtpmfiegfbmamiaaDoorPm2
namespace Go.Proofs.YtpmfiegfbmamiaaDoor
open Go.RowKit
def fNo:Nat→Prop:=fun _=>False
def fPure (u:Value) (x:Value) (S:Nat→Prop) (_:World):Prop:=x=u∧S=fNo
def fRow (xs:List Int) (n:Nat) (x:Value) (S:Nat→Prop) (w:World):Prop:=∃g,x = .slice (some ⟨g,0,none⟩) n n∧S=(fun k=>k=g)∧RL iV w (g+1) (some ⟨g,0,none⟩) xs
section
variable {u x:Value} {S:Nat→Prop} {w:World} {xs:List Int} {n B:Nat} {T E:TypeId} {l:List UInt8}
theorem Live.pure (h:Live (fPure u) x S w):x=u:=by obtain⟨_,h,_⟩:=h;exact h.1
theorem Live.row (h:Live (fRow xs n) x S w):∃g,x = .slice (some ⟨g,0,none⟩) n n∧S=(fun k=>k=g)∧Bx (RL iV w w.heap.size (some ⟨g,0,none⟩) xs)∧Bx (g<w.heap.size):=by
 obtain⟨w1,⟨g,e,s,r⟩,z,c⟩:=h;have hg:g<w1.heap.size:=z g (by rw[s]);refine⟨g,e,s,bx ((RL.ch r c (by omega) (fun ad ha hn=>hn ?_)).more (by have:=c.size;omega)),bx (by have:=c.size;omega)⟩;injection ha with ha
 rw[s,←ha]
variable {Fj:Value→(Nat→Prop)→World→Prop} {C:Nat→Prop} {Q:Exit→Act→World→Prop} {A:Value→Act} {a:Act} {w':World} {Tn:Nat→Prop}
theorem Y8q (hQ:∀x T w' a,a=A x→Fj x T w'→(∀k,T k→k<w'.heap.size)→Ch w w' C→(∀k,T k→C k∨w.heap.size≤k)→Q .normal a w') (ha:a=A x) (hF:Fj x fNo w):Q .normal a w:=
 hQ x fNo w a ha hF (fun _ h=>h.elim) (Ch.refl w) (fun _ h=>h.elim)
theorem W6s (hQ:∀x T w' a,a=A x→Fj x T w'→(∀k,T k→k<w'.heap.size)→Ch w w' C→(∀k,T k→C k∨w.heap.size≤k)→Q .normal a w') (ha:a=A x) (hF:Fj x Tn w') (hb:Below w.heap.size w w') (hT:∀k,Tn k→w.heap.size≤k∧k<w'.heap.size):Q .normal a w':=
 hQ x Tn w' a ha hF (fun k h=>(hT k h).2) (Ch.of_below hb) (fun k h => .inr (hT k h).1)
theorem Y0p {o:Obj} (hQ:∀x T w' a,a=A x→Fj x T w'→(∀k,T k→k<w'.heap.size)→Ch w w' C→(∀k,T k→C k∨w.heap.size≤k)→Q .normal a w') (ha:a=A x) (hF:Fj x (fun k=>k=w.heap.size) (w.alloc o)):Q .normal a (w.alloc o):=
 W6s hQ ha hF (Y9z (Below.refl _ _) (Z00 _) _) (fun k h=>by have h1:(w.alloc o).heap.size=w.heap.size+1:=(by simp);have h:k=w.heap.size:=h;omega)
end
end Go.Proofs.YtpmfiegfbmamiaaDoor
