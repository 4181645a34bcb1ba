/- Proved: KlassMore, as this seat states it, answers true for every argument that the row speaks of; no condition is added. -/
import Derived.Test.YtpmfiegfbmamiaaDoorPm2
import Derived.Test.YtpmfiegfbmamiaaDoorCards
import Derived.Test.YtpmfiegfbmamiaaDoorTie
import Derived.Deep.DeepHandedRow
import Derived.Lib.LaidTab
import Derived.Test.YtpmfiegfbmamiaaDoorPm28
namespace Go.Proofs.YtpmfiegfbmamiaaDoor.klassMore
set_option maxRecDepth 100000
open Go.ChangeShapes Go.WideShapes Go.ChangeAt Go.RowKit
open Go.ChangeMaps (open_string shut_string)
theorem contract (H:Type) (enc:TypeId×Value→H) (F:Stop.Interp) (W:World) (base:Nat) (args:Array Value) (ds gs:List (DataW H)) (before:List MemPlace)
  (hval0:∀(j:Nat) t v,Tryd.f3.params[j]? = some t→args[j]? = some v→Value.okWide Tryd.prog W .any base t v)
  (hW:DataW.Whole enc Tryd.prog Tryd.f3.params.toList Rows.klassMoreSpec.vars false W args.toList ds gs before)
  (hk0:Rows.uptoSmall H (ds++gs)=true)
  (hsz:(DataW.weightsEach Tryd.prog (Tryd.f3.params.toList++Rows.klassMoreSpec.plain.varTypes Tryd.prog) (ds++gs)).all (· ≤ reachBytes)=true)
  (_hL:laidMetH Tryd.prog Rows.klassMoreUptoRow.laid W) (hsh:W.ShapedOpen Tryd.prog) :
  Calls Tryd.prog 3 args W fun e W'=>∃v,e = .returned v∧(((Rows.OpenSpec.upto Rows.klassMoreSpec).at F).post enc Tryd.prog Tryd.f3 false true false false) W args v W':=by
 have hval:∀(j:Nat) t v,Tryd.f3.params[j]? = some t→args[j]? = some v→Value.okWide Tryd.prog W .any base t v:=hval0;have hW':=hW;obtain⟨p,q,hA0,hV,rfl,hfz,hnd⟩:=hW;have hA:DataW.TrodAll enc Tryd.prog W 0 (fun _=>true) true Tryd.f3.params.toList args.toList ds p:=hA0;rw[Tryd.params3]at hA hval hsz;obtain⟨v0,vs0,d0,ds0,p0,q0,hargs,rfl,rfl,h0,r0a⟩:=trodAll_cons hA;obtain⟨v1,vs1,d1,ds1,p1,q1,rfl,rfl,rfl,h1,r1a⟩:=trodAll_cons r0a;obtain⟨rfl,rfl,rfl⟩:=trodAll_nil r1a;obtain rfl:args=#[v0,v1]:=by cases args;simp_all
 obtain⟨rfl,rfl⟩:=trodVars_none hV;have hk:Rows.uptoBulkAll ([d0,d1]++[])≤1048576:=Z49 hk0;have k0:=h0;have lt0:∀x∈p0,x.block<W.heap.size:=by obtain⟨m,hm⟩:=k0;exact DataW.trod_lt m _ _ _ hm
 have k1:=h1;have lt1:∀x∈p1,x.block<W.heap.size:=by obtain⟨m,hm⟩:=k1;exact DataW.trod_lt m _ _ _ hm
 obtain⟨x0,rfl,rm0,nm0⟩:=X8n (hval 0 27 v0 rfl rfl) h0;have q0:Rows.uptoBulk d0≤1048576:=by simp only[Z14,Rows.uptoBulkAll]at hk;omega
 obtain⟨A1,n1,c1,l1,rfl,e1,hc1,hm1,r1,hd1⟩:=X7x Tryd.underlying28 Tryd.underlying5 (by kernel_rfl) (hval 1 28 v1 rfl rfl) h1;have b1:n1≤1048576:=by have h1:=Y3z hd1;simp only[Z14,Rows.uptoBulkAll]at hk;omega
 clear hA0 hval0;have hm0:=Tryd.laysM143.s1_3 W hsh
 refine(Y4w W hm0 x0 rm0 _ nm0 q0 A1 n1 c1 l1 e1 hc1 hm1 r1 b1).mono fun e W' ⟨he,bel⟩=>?_
 subst he;exact⟨_,rfl,_,_,_,[],_,[],hW',trodAll_mk1 (shut_bool Tryd.underlying4 _),(trodAll_cons_mk (Below.trod laidOut (by kernel_rfl) (Z49 (by kernel_rfl)) k0 bel lt0) (trodAll_cons_mk (Below.trod laidOut (by kernel_rfl) (Z49 (by kernel_rfl)) k1 bel lt1) trodAll_mk0)),rfl,bel.frame _,fun h=>by cases h⟩
noncomputable def laidWorld (os:Os):World:={ World.holding Tryd.prog os ⟨#[],#[],[]⟩ with heap:=layAt (layAt ((World.holding Tryd.prog os ⟨#[],#[],[]⟩).heap) 2 (flat2 Rows.laid_unicode_utf8_acceptRanges)) 1 (flat2 Rows.laid_unicode_utf8_first) }
theorem laid_met (os:Os):laidMet Tryd.prog Rows.klassMoreUptoRow.laid ((laidWorld os).forCall (fun _ _=>0) ⟨#[],#[.agg #[.int .i64 0,.string .empty,.string .empty,.slice none 0 0,.slice none 0 0,.slice none 0 0,.slice none 0 0],.slice none 0 0],[]⟩).memory:=
 laidMet_of_run' 8 (by kernel_rfl) (by kernel_rfl)
theorem reads (os:Os) {H:Type} (enc:TypeId×Value→H):∃places,DataW.whole enc Tryd.prog ((laidWorld os).forCall (fun _ _=>0) ⟨#[],#[.agg #[.int .i64 0,.string .empty,.string .empty,.slice none 0 0,.slice none 0 0,.slice none 0 0,.slice none 0 0],.slice none 0 0],[]⟩).memory Tryd.f3.params.toList Rows.klassMoreSpec.vars false (#[.agg #[.int .i64 0,.string .empty,.string .empty,.slice none 0 0,.slice none 0 0,.slice none 0 0,.slice none 0 0],.slice none 0 0]:Array Value).toList 8=some ([.agg [.lit (.int .i64 0),.lit (.string []),.lit (.string []),.nil,.nil,.nil,.nil],.nil],[],places):=
 ⟨[],by kernel_rfl⟩
theorem lifted (os:Os) (started:os.Started) (H:Type) (enc:TypeId×Value→H) (F:Stop.Interp) :
  ReturnsInHanded {} Tryd.checked os 3 .any ((Rows.OpenSpec.upto Rows.klassMoreSpec).preRow enc Tryd.prog Tryd.f3 Rows.klassMoreUptoRow.domain false Rows.klassMoreUptoRow.laid) (((Rows.OpenSpec.upto Rows.klassMoreSpec).at F).post enc Tryd.prog Tryd.f3 false true false false):=by
 obtain⟨places,hx⟩:=reads os enc
 refine returnsInHanded_of_row (C:=Tryd.checked) (s:=Rows.OpenSpec.upto Rows.klassMoreSpec) own started (by kernel_rfl) Tryd.func3
  (witness_row_at (enc:=enc) (C:=Tryd.checked) false (laidWorld os) #[.agg #[.int .i64 0,.string .empty,.string .empty,.slice none 0 0,.slice none 0 0,.slice none 0 0,.slice none 0 0],.slice none 0 0] rfl (by kernel_rfl) (by kernel_rfl) (by kernel_rfl)
   (OpenSpec.preRow_of_cond 8 hx (by kernel_rfl) (fun k hk=>by cases hk;kernel_rfl) (by kernel_rfl) (laid_met os))) ?_
 intro W base args ds gs before hval hW _ hcond hsz hL hsh _;exact contract H enc F W base args ds gs before hval hW (hcond _ rfl) hsz hL hsh
theorem row:Rows.KlassMoreUptoSaid:=
 OpenClaim.holds_of_cond 3 Tryd.f3 rfl rfl rfl rfl rfl rfl rfl ⟨rfl,rfl,rfl,rfl,rfl⟩ rfl rfl rfl rfl rfl (by kernel_rfl) Tryd.func3 (by kernel_rfl)
  (Z49 (by kernel_rfl)) (by unfold Func.isWrapper;first | (rw[if_pos (by decide +kernel)];kernel_rfl) | (rw[if_neg (by decide +kernel)];exact⟨rfl,rfl⟩))
  (fun os started H enc _ F=>by rw[OpenClaim.pre_eq_preRow];exact lifted os started H enc F)
theorem plain (f : FuncId) (fn : Func) (hf : Tryd.pinned.checked.prog.funcNamed "samovar/samovarlaw15.KlassMore" = some f) (hfn : Tryd.pinned.checked.prog.funcs[f]? = some fn) :
  true=Tryd.pinned.checked.prog.looks []∧∀(j:Nat) t,fn.params[j]? = some t→Tryd.pinned.checked.prog.wantsStandIn t=false:=by
 obtain rfl : f = 3 := Option.some.inj ((show Tryd.prog.funcNamed "samovar/samovarlaw15.KlassMore" = some 3 by kernel_rfl).symm.trans hf) |>.symm
 obtain rfl:fn=Tryd.f3:=(Option.some.inj (Tryd.func3.symm.trans hfn)).symm;refine⟨by kernel_rfl,fun j t ht=>?_⟩;rw[Tryd.params3]at ht;have hm:=Array.mem_of_getElem? ht;simp only[List.mem_toArray,Z23,List.mem_nil_iff,or_false]at hm;rcases hm with rfl | rfl
 ·exact(show Tryd.prog.wantsStandIn 27=false by kernel_rfl)
 ·exact(show Tryd.prog.wantsStandIn 28=false by kernel_rfl)
theorem proved:Rows.KlassMoreUptoCardSaid:=
 Claim7.holds_tied_plain_at .later [] _ _ _ _ row (fun _ h=>by cases h) (by kernel_rfl) (fun _ h=>by cases h) klassMoreUpto_row_tie rfl ⟨rfl,rfl⟩ (by kernel_rfl) rfl plain (by kernel_rfl)
#print axioms proved
end Go.Proofs.YtpmfiegfbmamiaaDoor.klassMore
