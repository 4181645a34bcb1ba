/- Proved: KlassBack, as this seat states it, answers true for every argument that the row speaks of; no condition is added. -/
import Derived.Test.YtpmfiegfbmamiaaGreatDoorPk2
import Derived.Test.YtpmfiegfbmamiaaGreatDoorCards
import Derived.Test.YtpmfiegfbmamiaaGreatDoorTie
import Derived.Deep.DeepHandedRow
import Derived.Lib.LaidTab
import Derived.Test.YtpmfiegfbmamiaaGreatDoorPk30
namespace Go.Proofs.YtpmfiegfbmamiaaGreatDoor.klassBack
set_option maxRecDepth 100000
open Go.ChangeShapes Go.WideShapes Go.ChangeAt Go.RowKit
open Go.ChangeMaps (open_string shut_string)
theorem contract (H:Type) (enc:TypeId×Value→H) (F:Stop.Interp) (W:World) (base:Nat) (args:Array Value) (ds gs:List (DataW H)) (before:List MemPlace)
  (hval0:∀(j:Nat) t v,Tryz.f3.params[j]? = some t→args[j]? = some v→Value.okWide Tryz.prog W .any base t v)
  (hW:DataW.Whole enc Tryz.prog Tryz.f3.params.toList Rows.klassBackSpec.vars false W args.toList ds gs before)
  (hk0:Rows.uptoSmall H (ds++gs)=true)
  (hsz:(DataW.weightsEach Tryz.prog (Tryz.f3.params.toList++Rows.klassBackSpec.plain.varTypes Tryz.prog) (ds++gs)).all (· ≤ reachBytes)=true)
  (_hL:laidMetH Tryz.prog Rows.klassBackUptoRow.laid W) (hsh:W.ShapedOpen Tryz.prog) :
  Calls Tryz.prog 3 args W fun e W'=>∃v,e = .returned v∧(((Rows.OpenSpec.upto Rows.klassBackSpec).at F).post enc Tryz.prog Tryz.f3 false true false false) W args v W':=by
 have hval:∀(j:Nat) t v,Tryz.f3.params[j]? = some t→args[j]? = some v→Value.okWide Tryz.prog W .any base t v:=hval0;have hW':=hW;obtain⟨p,q,hA0,hV,rfl,hfz,hnd⟩:=hW;have hA:DataW.TrodAll enc Tryz.prog W 0 (fun _=>true) true Tryz.f3.params.toList args.toList ds p:=hA0;rw[Tryz.params3]at hA hval hsz;obtain⟨v0,vs0,d0,ds0,p0,q0,hargs,rfl,rfl,h0,r0a⟩:=trodAll_cons hA;obtain⟨rfl,rfl,rfl⟩:=trodAll_nil r0a;obtain rfl:args=#[v0]:=by cases args;simp_all
 obtain⟨rfl,rfl⟩:=trodVars_none hV;have hk:Rows.uptoBulkAll ([d0]++[])≤1048576:=Z48 hk0;have k0:=h0;have lt0:∀x∈p0,x.block<W.heap.size:=by obtain⟨m,hm⟩:=k0;exact DataW.trod_lt m _ _ _ hm
 obtain⟨x0,rfl,rm0,nm0⟩:=X6p (hval 0 27 v0 rfl rfl) h0;have q0:Rows.uptoBulk d0≤1048576:=by simp only[Z14,Rows.uptoBulkAll]at hk;omega
 clear hA0 hval0;have hm0:=Tryz.laysM138.s1_3 W hsh
 refine(Y4m W hm0 x0 rm0 _ nm0 q0).mono fun e W' ⟨he,bel⟩=>?_
 subst he;exact⟨_,rfl,_,_,_,[],_,[],hW',trodAll_mk1 (shut_bool Tryz.underlying4 _),(trodAll_cons_mk (Below.trod laidOut (by kernel_rfl) (Z48 (by kernel_rfl)) k0 bel lt0) trodAll_mk0),rfl,bel.frame _,fun h=>by cases h⟩
noncomputable def laidWorld (os:Os):World:={ World.holding Tryz.prog os ⟨#[],#[],[]⟩ with heap:=layAt (layAt ((World.holding Tryz.prog os ⟨#[],#[],[]⟩).heap) 6 (flat2 Rows.laid_unicode_utf8_acceptRanges)) 5 (flat2 Rows.laid_unicode_utf8_first) }
theorem laid_met (os:Os):laidMet Tryz.prog Rows.klassBackUptoRow.laid ((laidWorld os).forCall (fun _ _=>0) ⟨#[],#[.agg #[.int .i64 0,.string .empty,.string .empty,.slice none 0 0,.slice none 0 0,.slice none 0 0,.slice none 0 0]],[]⟩).memory:=
 laidMet_of_run' 8 (by kernel_rfl) (by kernel_rfl)
theorem reads (os:Os) {H:Type} (enc:TypeId×Value→H):∃places,DataW.whole enc Tryz.prog ((laidWorld os).forCall (fun _ _=>0) ⟨#[],#[.agg #[.int .i64 0,.string .empty,.string .empty,.slice none 0 0,.slice none 0 0,.slice none 0 0,.slice none 0 0]],[]⟩).memory Tryz.f3.params.toList Rows.klassBackSpec.vars false (#[.agg #[.int .i64 0,.string .empty,.string .empty,.slice none 0 0,.slice none 0 0,.slice none 0 0,.slice none 0 0]]:Array Value).toList 8=some ([.agg [.lit (.int .i64 0),.lit (.string []),.lit (.string []),.nil,.nil,.nil,.nil]],[],places):=
 ⟨[],by kernel_rfl⟩
theorem lifted (os:Os) (started:os.Started) (H:Type) (enc:TypeId×Value→H) (F:Stop.Interp) :
  ReturnsInHanded {} Tryz.checked os 3 .any ((Rows.OpenSpec.upto Rows.klassBackSpec).preRow enc Tryz.prog Tryz.f3 Rows.klassBackUptoRow.domain false Rows.klassBackUptoRow.laid) (((Rows.OpenSpec.upto Rows.klassBackSpec).at F).post enc Tryz.prog Tryz.f3 false true false false):=by
 obtain⟨places,hx⟩:=reads os enc
 refine returnsInHanded_of_row (C:=Tryz.checked) (s:=Rows.OpenSpec.upto Rows.klassBackSpec) own started (by kernel_rfl) Tryz.func3
  (witness_row_at (enc:=enc) (C:=Tryz.checked) false (laidWorld os) #[.agg #[.int .i64 0,.string .empty,.string .empty,.slice none 0 0,.slice none 0 0,.slice none 0 0,.slice none 0 0]] rfl (by kernel_rfl) (by kernel_rfl) (by kernel_rfl)
   (OpenSpec.preRow_of_cond 8 hx (by kernel_rfl) (fun k hk=>by cases hk;kernel_rfl) (by kernel_rfl) (laid_met os))) ?_
 intro W base args ds gs before hval hW _ hcond hsz hL hsh _;exact contract H enc F W base args ds gs before hval hW (hcond _ rfl) hsz hL hsh
theorem row:Rows.KlassBackUptoSaid:=
 OpenClaim.holds_of_cond 3 Tryz.f3 rfl rfl rfl rfl rfl rfl rfl ⟨rfl,rfl,rfl,rfl,rfl⟩ rfl rfl rfl rfl rfl (by kernel_rfl) Tryz.func3 (by kernel_rfl)
  (Z48 (by kernel_rfl)) (by unfold Func.isWrapper;first | (rw[if_pos (by decide +kernel)];kernel_rfl) | (rw[if_neg (by decide +kernel)];exact⟨rfl,rfl⟩))
  (fun os started H enc _ F=>by rw[OpenClaim.pre_eq_preRow];exact lifted os started H enc F)
theorem plain (f : FuncId) (fn : Func) (hf : Tryz.pinned.checked.prog.funcNamed "samovar/samovarlaw15.KlassBack" = some f) (hfn : Tryz.pinned.checked.prog.funcs[f]? = some fn) :
  true=Tryz.pinned.checked.prog.looks []∧∀(j:Nat) t,fn.params[j]? = some t→Tryz.pinned.checked.prog.wantsStandIn t=false:=by
 obtain rfl : f = 3 := Option.some.inj ((show Tryz.prog.funcNamed "samovar/samovarlaw15.KlassBack" = some 3 by kernel_rfl).symm.trans hf) |>.symm
 obtain rfl:fn=Tryz.f3:=(Option.some.inj (Tryz.func3.symm.trans hfn)).symm;refine⟨by kernel_rfl,fun j t ht=>?_⟩;rw[Tryz.params3]at ht;have hm:=Array.mem_of_getElem? ht;simp only[List.mem_toArray,Z27,List.mem_nil_iff,or_false]at hm;subst hm
 exact(show Tryz.prog.wantsStandIn 27=false by kernel_rfl)
theorem proved:Rows.KlassBackUptoCardSaid:=
 Claim7.holds_tied_plain_at .later [] _ _ _ _ row (fun _ h=>by cases h) (by kernel_rfl) (fun _ h=>by cases h) klassBackUpto_row_tie rfl ⟨rfl,rfl⟩ (by kernel_rfl) rfl plain (by kernel_rfl)
#print axioms proved
end Go.Proofs.YtpmfiegfbmamiaaGreatDoor.klassBack
