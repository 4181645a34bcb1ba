/- A map whose keys are pairs of texts. -/
import Derived.Test.YtpmfiegfbmamiaaDoorPm8
import Derived.DeepKeys4
namespace Go.Proofs.YtpmfiegfbmamiaaDoor
set_option maxRecDepth 100000
open Go.RowKit
def prV (k:List UInt8×List UInt8):Value := .agg #[strQ k.1,strQ k.2]
theorem X3p (x y:List UInt8×List UInt8) (h:prV x=prV y):x=y:=by
 unfold prV at h;injection h with h
 have h1:=congrArg (fun a=>a[0]?) h;have h2:=congrArg (fun a=>a[1]?) h;have h1:some (strQ x.1)=some (strQ y.1):=h1;have h2:some (strQ x.2)=some (strQ y.2):=h2;injection h1 with h1
 injection h2 with h2
 exact Prod.ext (Y6l _ _ h1) (Y6l _ _ h2)
theorem prLaid:laidOutB Tryd.prog=true:=by kernel_rfl
theorem prWide:(match Tryd.prog.underlying 104 with | some (.array _ _) | some (.struct _)=>true | _=>false)=true:=by rw[Tryd.underlying104]
theorem prRow:(104:TypeId)<Tryd.prog.types.size:=Z49 (by kernel_rfl)
theorem prAt:Tryd.prog.keyTypeAt 2 104=true:=by kernel_rfl
theorem prLaw:WideMaps.KeyLaw Tryd.prog 104:=deep_law_laid prLaid (m:=2) (by omega) prRow prAt prWide
theorem prKd:Maps.Keyed Tryd.prog 104:=Maps.Keyed.of_law prLaw
theorem prType:Tryd.prog.keyType 104=true:=by kernel_rfl
theorem prCells:Tryd.prog.cellsOf 104=2:=by kernel_rfl
theorem stCells:Tryd.prog.cellsOf 9=1:=by kernel_rfl
theorem prSize:∃m,Tryd.prog.types.size=m+1:=⟨Tryd.prog.types.size-1,by
 have:0<Tryd.prog.types.size:=Z49 (by kernel_rfl)
 omega⟩
theorem prKey (k:List UInt8×List UInt8) (h1:k.1.length≤2000000) (h2:k.2.length≤2000000):keyOf Tryd.prog 104 (prV k)=some (.string (keyBytes [.string k.1,.string k.2])):=by
 obtain⟨m,hm⟩:=prSize;have e1:(⟨k.1.toArray⟩:ByteArray).size≤maxLen:=by unfold maxLen;show k.1.toArray.size≤_;rw[List.size_toArray];omega
 have e2:(⟨k.2.toArray⟩:ByteArray).size≤maxLen:=by unfold maxLen;show k.2.toArray.size≤_;rw[List.size_toArray];omega
 unfold keyOf;rw[Tryd.underlying104];simp only[prType,Z25];rw[hm];simp [prV,Value.formed,Value.cells,Program.keyLits,Tryd.underlying104,Tryd.underlying9,prCells,stCells,strQ,e1,e2]
end Go.Proofs.YtpmfiegfbmamiaaDoor
