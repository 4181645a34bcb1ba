/- Parts: A map whose keys are pairs of texts. Contract: (*image.sink).members. append(b, s...), s a string, onto bytes of the call's own, with what turns. Nothing here speaks of the program. Regions that draw their order, are guarded, and hold calls that make memory: heads that read where S holds, taken in the order of the text, wanted or not; between them one loud operation each. Nothing here speaks of the program. -/
import Derived.Test.YtpmfiegfbmamiaaGreatDoorPk8
import Derived.DeepKeys4
import Derived.Test.YtpmfiegfbmamiaaGreatDoorPk7
import Derived.Test.YtpmfiegfbmamiaaGreatDoorPk3
import Derived.Test.YtpmfiegfbmamiaaGreatDoorPk2
import Derived.Test.YtpmfiegfbmamiaaGreatDoorPk5
namespace Go.Proofs.YtpmfiegfbmamiaaGreatDoor
set_option maxRecDepth 100000
set_option maxHeartbeats 8000000
open Go.RowKit
def prV (k:List UInt8×List UInt8):Value := .agg #[strQ k.1,strQ k.2]
theorem X2z (x y:List UInt8×List UInt8) (h:prV x=prV y):x=y:=by
 unfold prV at h;injection h with h
 have h1:=congrArg (fun a=>a[0]?) h;have h2:=congrArg (fun a=>a[1]?) h;have h1:some (strQ x.1)=some (strQ y.1):=h1;have h2:some (strQ x.2)=some (strQ y.2):=h2;injection h1 with h1
 injection h2 with h2
 exact Prod.ext (Y6i _ _ h1) (Y6i _ _ h2)
theorem prLaid:laidOutB Tryz.prog=true:=by kernel_rfl
theorem prWide:(match Tryz.prog.underlying 125 with | some (.array _ _) | some (.struct _)=>true | _=>false)=true:=by rw[Tryz.underlying125]
theorem prRow:(125:TypeId)<Tryz.prog.types.size:=Z48 (by kernel_rfl)
theorem prAt:Tryz.prog.keyTypeAt 2 125=true:=by kernel_rfl
theorem prLaw:WideMaps.KeyLaw Tryz.prog 125:=deep_law_laid prLaid (m:=2) (by omega) prRow prAt prWide
theorem prKd:Maps.Keyed Tryz.prog 125:=Maps.Keyed.of_law prLaw
theorem prType:Tryz.prog.keyType 125=true:=by kernel_rfl
theorem prCells:Tryz.prog.cellsOf 125=2:=by kernel_rfl
theorem stCells:Tryz.prog.cellsOf 9=1:=by kernel_rfl
theorem prSize:∃m,Tryz.prog.types.size=m+1:=⟨Tryz.prog.types.size-1,by
 have:0<Tryz.prog.types.size:=Z48 (by kernel_rfl)
 omega⟩
theorem prKey (k:List UInt8×List UInt8) (h1:k.1.length≤2000000) (h2:k.2.length≤2000000):keyOf Tryz.prog 125 (prV k)=some (.string (keyBytes [.string k.1,.string k.2])):=by
 obtain⟨m,hm⟩:=prSize;have e1:(⟨k.1.toArray⟩:ByteArray).size≤maxLen:=by unfold maxLen;show k.1.toArray.size≤_;rw[List.size_toArray];omega
 have e2:(⟨k.2.toArray⟩:ByteArray).size≤maxLen:=by unfold maxLen;show k.2.toArray.size≤_;rw[List.size_toArray];omega
 unfold keyOf;rw[Tryz.underlying125];simp only[prType,Z23];rw[hm];simp [prV,Value.formed,Value.cells,Program.keyLits,Tryz.underlying125,Tryz.underlying9,prCells,stCells,strQ,e1,e2]
open Go.RowKit
def MmLim (x:MmE):Prop:=x.L.length≤64∧∀y∈x.L,y.s.l.length≤32768
theorem Y1p (M:List AtE) (h64:M.length≤64) (hd:∀x∈M,x.s.l.length≤32768):(attsB (M.map AtE.p)).length≤2097538:=by
 unfold attsB;rw[Z08,beB_len]
 have:=X9j M hd
 omega
theorem X8j (M:List MmE) (hd:∀x∈M,MmLim x):((M.map MmE.p).flatMap memB).length≤2097544*M.length:=by
 induction M with
 | nil=>simp
 | cons x r ih=>
  have h1:=hd x (by simp);have h2:=ih (fun y hy=>hd y (by simp [hy]));have h3:=Y1p x.L h1.1 h1.2;rw[List.map_cons,Z28,Z08,Z13];have h4:(memB x.p).length=6+(attsB (x.L.map AtE.p)).length:=by unfold memB;rw[Z08,Z08,Z08,beB_len,beB_len,beB_len];show 2+(2+(2+_))=_;show 2+(2+(2+(attsB (x.L.map AtE.p)).length))=_;omega
  omega
theorem Y4d (B g:Nat) (v:Value) (o:List UInt8) (Aa:Option Addr) (na ca:Nat) (M:List MmE) (w0 w:World) (h:SkR w0 w B g v o) (hm:M.length=na) (h64:na≤64) (hd:∀x∈M,MmLim x) (ha:RM w0 B Aa M) (ho:o.length≤800000000000) :
  Calls Tryz.prog 31 #[.pointer (some ⟨g,0,none⟩),.slice Aa na ca] w (SkPost w0 w B g v (o++memsB (M.map MmE.p))):=by
 have HM:=bx hm;have HA:=bx ha;have HD:=bx hd;have HO:=bx ho;have H0:=bx h;obtain⟨l0,hl0⟩:∃l0,o++[(na:Int)].flatMap (beB 2)=l0:=⟨_,rfl⟩;have HL0:=bx hl0
 have Ml:Bx (o++memsB (M.map MmE.p)=l0++(M.map MmE.p).flatMap memB):=bx (by
  rw[←hl0];unfold memsB;rw[Z22,hm]
  simp)
 have Yk:Bx (l0.length≤800000000002):=bx (by rw[←hl0];simp [beB_len];omega);have Tj:=bx (Y9g B g 2 1 v o l0 [(na:Int)] #[.int .i64 (na:Int)] w0 w h rfl rfl (by decide) (by decide) (by decide) (by omega) hl0);clear h hm ha hd ho hl0
 go_enter Tryz.func31,Tryz.ntmps31
 go_wp2_with fail
 refine Tj.out.mono ?_;rintro e w1 ⟨⟨_,rfl⟩,v1,h1,hc1⟩;have Wc:Bx (SkR w0 w1 B g v1 (l0++((M.take 0).map MmE.p).flatMap memB)):=bx (by simpa using h1);have Sc:=bx hc1;clear h1 hc1 Tj;go_wp2
 go_loopw [13] (fun iv wx=>∃(j:Nat) (vj:Value),j≤na∧iv = .int .i64 (j:Int)∧Bx (SkR w0 wx B g vj (l0++((M.take j).map MmE.p).flatMap memB))∧Bx (SkC g w v wx vj)) (fun iv _=>na-(intOf iv).toNat)
 case atStart=>exact⟨0,v1,by omega,rfl,Wc,Sc⟩
 case round=>
  clear Wc Sc;obtain⟨j,vj,hj,rfl,HS,HC⟩:=hrel;by_cases hjn:j<na
  ·have hjI:(j:Int)<(na:Int):=by omega
   obtain⟨ad,x,rfl,hlt,HX,p0,p1,p2,p3,Qp⟩:=(HA.out.below HS.out.bel (Z00 _)).at_ (k:=j) (by rw[HM.out];exact hjn);have hxl:=HD.out x (Z15 HX.out);have Kw:=bx hxl;have Jl:=bx Qp.out.1;obtain⟨lj,hlj⟩:∃lj,l0++((M.take j).map MmE.p).flatMap memB=lj:=⟨_,rfl⟩
   have hln:lj.length≤800134242818:=by
    rw[←hlj,Z08];have h1:=X8j (M.take j) (fun y hy=>HD.out y (List.mem_of_mem_take hy));have h2:(M.take j).length≤64:=by rw[Z31];omega
    have:=Yk.out
    omega
   have N7:=bx hlj;rw[hlj]at HS;obtain⟨C,hC⟩:∃C,wr.heap.size=C:=⟨_,rfl⟩;have hgC:C≠g∧vj.ownBlock≠some C:=⟨fun e=>by have:=(HS.out.low g (.inl rfl)).2;omega,fun e=>by have:=(HS.out.low C (.inr e)).2;omega⟩;have Vr:=bx hgC;have Yz:=bx (Bk.newAt wr 78 #[.int .i64 x.access,.int .i64 x.name,.int .i64 x.desc,.slice x.A x.n x.c] hC);have Za:=bx (Y9z (Below.refl wr.heap.size wr) (Z00 _) (.cells #[.int .i64 x.access,.int .i64 x.name,.int .i64 x.desc,.slice x.A x.n x.c] 78));have Xk:=bx hC;clear hC hgC hlj hxl;go_upto_region 4 with(fail)
   rw[Xk.out];generalize wr.alloc (.cells #[.int .i64 x.access,.int .i64 x.name,.int .i64 x.desc,.slice x.A x.n x.c] 78)=wb at Yz Za ⊢;have Sr:=bx (HS.out.below Za.out);have My:=bx (HC.out.below Za.out);have c0:wb.cell? ⟨C,0,none⟩=some (.int .i64 x.access):=(Yz.out.cell 0).trans rfl;have c1:wb.cell? ⟨C,1,none⟩=some (.int .i64 x.name):=(Yz.out.cell 1).trans rfl;have c2:wb.cell? ⟨C,2,none⟩=some (.int .i64 x.desc):=(Yz.out.cell 2).trans rfl;obtain⟨la,hla⟩:∃la,lj++[x.access,x.name,x.desc].flatMap (beB 2)=la:=⟨_,rfl⟩;have hlan:la.length≤800134242824:=by rw[←hla];simp [beB_len];omega
   have Tf:=bx (Y9g B g 2 3 vj lj la [x.access,x.name,x.desc] #[.int .i64 x.access,.int .i64 x.name,.int .i64 x.desc] w0 wb Sr.out rfl rfl (by decide) (by decide) (by decide) (by omega) hla);have Ct:=bx hla;have Gc:=bx hlan;clear p0 p1 p2 p3 Xk hln hla hlan Qp HS HC;go_wp2_with fail
   refine Tf.out.mono ?_;rintro e w2 ⟨⟨_,rfl⟩,v2,hs2,hc2⟩;have Zn:=bx (Yz.out.skc hc2 Vr.out.1 Vr.out.2);have Yu:=bx (My.out.trans hc2);have Wq:=bx (X7z B g v2 la x.A x.n x.c x.L w0 w2 hs2 Jl.out (by have:=Kw.out.1;have:=Jl.out;omega) Kw.out.2 (HA.out.2 x (Z15 HX.out)).2.2.2 (by have:=Gc.out;omega));have c3:w2.cell? ⟨C,3,none⟩=some (.slice x.A x.n x.c):=(Zn.out.cell 3).trans rfl;clear hs2 hc2 c0 c1 c2 Tf;go_wp2_with fail
   refine Wq.out.mono ?_;rintro e w3 ⟨⟨_,rfl⟩,v3,hs3,hc3⟩
   have N1:Bx (SkR w0 w3 B g v3 (l0++((M.take (j+1)).map MmE.p).flatMap memB)):=bx (by
    have e:l0++((M.take (j+1)).map MmE.p).flatMap memB=la++attsB (x.L.map AtE.p):=by rw[Y9r HX.out,Z30,Z29,←Z25,N7.out,←Ct.out];have e2:[x].map MmE.p=[⟨x.access,x.name,x.desc,x.L.map AtE.p⟩]:=rfl;rw[e2];simp [memB]
    rw[e];exact hs3)
   have N2:=bx (Yu.out.trans hc3);clear hs3 hc3 Wq;go_wp2;go_roundw
   case rel=>exact⟨j+1,_,by omega,by go_num,N1,N2⟩
   case measure=>simp [intOf];omega
  ·obtain rfl:j=na:=by omega
   have hjI:¬(j:Int)<(j:Int):=(by omega);have hF:Bx (SkR w0 wr B g vj (o++memsB (M.map MmE.p))):=bx (by rw[Ml.out];have:=HS.out;rwa [Z12 (by rw[HM.out];exact Z00 _)]at this);go_wp2
   go_end0
   exact⟨⟨_,rfl⟩,vj,hF.out,HC.out⟩
open Go.RowKit
theorem grown_ch {w w':World} {v v':Value} (g:w.grownBy w' v.ownBlock) (k:v'.ownBlock=v.ownBlock∨v'.ownBlock=some w.heap.size):Ch w w' (Fow v)∧OwnN w v v':=
 ⟨Ch.of_grown g (fun _ h=>h),by
  rcases k with e | e
  ·exact .inl e
  ·exact .inr ⟨_,e,Z00 _⟩⟩
section
variable {P:Program} (w:World)
theorem Y0i {t u e:TypeId} (ty:TypeId) (hE:ETy P t e (.int .u8 0) 1 1) (hu:P.underlying u=some .string) (base:Nat) (v:Value) (l:List UInt8) (hown:OwB w base e v l) (s:ByteArray)
  (hn:l.length+s.size≤140737488355328) (hbase:base≤w.heap.size) :
  ∃v' w',(Builtin.append_ #[t,u] ty #[v,.string s]).run P w = .ok v' w'∧OwB w' base e v' (l++s.data.toList)∧Ch w w' (Fow v)∧OwnN w v v':=by
 obtain⟨i,hi,hz,hsz,hb⟩:=hE.info;obtain⟨v',w',hr,h2,h3,h4⟩:=Lib.run_append_own_string (P:=P) w base t u ty e i hE.sl hu hi hz hsz hb v l.length (l.map bV) hown s (by unfold maxLen;omega) hn hbase;have hown2:=hown
 have key:v'.ownBlock=v.ownBlock∨v'.ownBlock=some w.heap.size:=by
  rcases hown2.2 with⟨e1,e2⟩ | ⟨g,cap,cur,rfl,hbg,hg,hnc,hcm,hcs,htake⟩
  ·have hv:v = .slice none 0 0:=by first | exact e1 | exact e2
   subst hv;by_cases h0:s.size=0
   ·left
    rw[h4.2 ⟨rfl,h0⟩]
   ·right
    rw[run_append_nil_string (P:=P) w t u ty e i (.int .u8 0) hE.sl hu hi hz s (by omega) (by omega) (by rw[hb];omega)]at hr;injection hr with hr _
    rw[←hr];rfl
  ·by_cases hroom:l.length+s.size≤cap
   ·left
    have hcs':cur.size=cap:=(by simpa using hcs);rw[Lib.run_append_room_string (P:=P) w t u ty e i hE.sl hu hi hsz g l.length cap cur hg s hroom (by omega)]at hr;injection hr with hr _
    rw[←hr];rfl
   ·right
    have holds:∀j u,(l.map bV)[j]? = some u→w.cell? ((⟨g,0,none⟩:Addr).add j)=some u:=World.ownsRow.cells hown (g:=g) rfl;rw[Lib.run_append_grow_string (P:=P) w t u ty e i (.int .u8 0) hE.sl hu hi hz ⟨g,0,none⟩ l.length cap (l.map bV) (by rw[hsz];simp) holds s (by omega) (by omega) (by rw[hb];exact growslice_fits (by omega) (by omega))]at hr;injection hr with hr _
    rw[←hr];rfl
 refine⟨v',w',hr,?_,grown_ch h3 key⟩;unfold OwB OwL;rw[Z08,Z30];exact h2
theorem Y2l {ops:Array Oper} {o:Oper} {a:Act} {K:Act→World→Prop} {Q:Exit→Act→World→Prop} {E:Prop} (hgd:o.guard=none) (s x:Operand) {t u e:TypeId}
  (ho:o.op = .call { callee := .builtin .append,args:=#[s,x],argTypes:=#[t,u] }) (hE:ETy P t e (.int .u8 0) 1 1) (hu:P.underlying u=some .string)
  (base:Nat) (v:Value) (l:List UInt8) (hs:a.eval s=v) (hown:OwB w base e v l) (b:ByteArray) (hx:a.eval x = .string b)
  (hn:l.length+b.size≤140737488355328) (hbase:base≤w.heap.size)
  (h:∀v' w',OwB w' base e v' (l++b.data.toList)→Ch w w' (Fow v)→OwnN w v v'→K (a.put o.dst v') w') :
  if Region.wanted o (yielded ops a.tmps)=true then Oper.wp P o a w K Q else E:=by
 have hw:Region.wanted o (yielded ops a.tmps)=true:=(by simp [Region.wanted,hgd]);rw[if_pos hw];obtain⟨v',w',hrun,h2,h3,h4⟩:=Y0i (P:=P) w o.type hE hu base v l hown b hn hbase;unfold Oper.wp execOp;simp only[ho,resolve,invoke,builtin,Sem.run_bind,Sem.run_pure,Result.andThen_ok,List.map_toArray,List.map_cons,List.map_nil,hs,hx,hrun];exact h v' w' h2 h3 h4
end
section
variable {P:Program} {ops:Array Oper} {md:Region.Mode} {Q:Exit→Act→World→Prop} {S:World→Prop}
def HeldAt (P:Program) (o:Oper) (a:Act) (S:World→Prop) (v:Value):Prop:=∀w,S w→(execOp a.eval o).run P w = .ok (.value v) w
def wpHeld (P:Program) (ops:Array Oper) (S:World→Prop) (R:Act→Prop):List Oper→Act→Prop
 | [],a=>R a
 | o::rest,a=>if Region.wanted o (yielded ops a.tmps) then ∃v,HeldAt P o a S v∧wpHeld P ops S R rest (a.put o.dst v) else wpHeld P ops S R rest (a.put o.dst undef)
theorem Y5z {R:Act→Prop} {a:Act} (h:R a):wpHeld P ops S R [] a:=h
theorem Y0h {R R':Act→Prop} (hR:∀a,R a→R' a):∀(rest:List Oper) (a:Act),wpHeld P ops S R rest a→wpHeld P ops S R' rest a:=by
 intro rest
 induction rest with
 | nil=>intro a h;exact hR a h
 | cons o rest ih=>
  intro a h;unfold wpHeld at h ⊢
  split
  ·rename_i hw
   simp only[hw,if_true]at h;obtain⟨v,hv,hk⟩:=h;exact⟨v,hv,ih _ hk⟩
  ·rename_i hw
   simp only[hw]at h;exact ih _ h
theorem Y5i (hs:Region.noSelect ops=true) (hQ:∀c a w d u,Q (.panic c) (a.put d u) w→Q (.panic c) a w) {f:Nat} {w:World} (hS:S w) :
  ∀(c i:Nat) (listed:Array Bool) (a:Act) (rest:List Oper),(∀j,j<c→ops[i+j]? = rest[j]?)→rest.length=c→qHeadB md ops c i listed=true →
   wpHeld P ops S (fun a'=>wpAnyH P md ops Q S f (marks c i listed) a' w) rest a→wpAnyH P md ops Q S (f+c) listed a w:=by
 intro c
 induction c with
 | zero=>
  intro i listed a rest _ hl _ h
  have:rest=[]:=Z38 hl
  subst this;exact h
 | succ c ih=>
  intro i listed a rest ho hl hb h;cases rest with
  | nil=>cases hl
  | cons o rest=>
   simp only[qHeadB,Z19]at hb;obtain⟨⟨h1,h2⟩,h3⟩:=hb;have hi:ops[i]? = some o:=by have:=ho 0 (by omega);simpa using this
   have ho':∀j,j<c→ops[i+1+j]? = rest[j]? := fun j hj=>by
    have:=ho (j+1) (by omega)
    rw[show i+1+j=i+(j+1) by omega,this];rfl
   have hl':rest.length=c:=(by simpa using hl);have key:∀v,YieldsIf P ops S o v a→wpHeld P ops S (fun a'=>wpAnyH P md ops Q S f (marks c (i+1) (listed.setIfInBounds i true)) a' w) rest (a.put o.dst v)→wpAnyH P md ops Q S (f+(c+1)) listed a w:=fun v hy hk=>by rw[←Nat.add_assoc];exact wpAnyH_first hi (Region.noSelect_spec hs) (fun c a w h=>hQ c a w _ _ h) _ _ _ _ (Region.free_spec hi h1) (by simpa using h2) hy hS (ih (i+1) _ _ rest ho' hl' h3 hk)
   unfold wpHeld at h;by_cases hw:Region.wanted o (yielded ops a.tmps)=true
   ·simp only[hw,if_true]at h
    obtain⟨v,hv,hk⟩:=h;exact key v (.inl ⟨hw,hv⟩) hk
   ·simp only[hw]at h
    exact key undef (.inr ⟨by simpa using hw,rfl⟩) h
def wpSegs (P:Program) (ops:Array Oper) (S:World→Prop) (Q:Exit→Act→World→Prop):List Nat→List Oper→Act→World→Prop
 | [],_,a,w=>Q .normal a w
 | c::segs,rest,a,w=>wpHeld P ops S (fun a'=>match rest.drop c with
   | []=>Q .normal a' w
   | o::r=>if Region.wanted o (yielded ops a'.tmps) then o.wp P a' w (fun a'' w'=>S w'∧wpSegs P ops S Q segs r a'' w') Q else wpSegs P ops S Q segs r (a'.put o.dst undef) w) (rest.take c) a
def segB (md:Region.Mode) (ops:Array Oper):List Nat→Nat→Array Bool→Bool
 | [],_,l=>(Region.ready md ops l).isEmpty
 | c::segs,i,l=>decide (i+c≤ops.size)&&qHeadB md ops c i l&&(if i+c=ops.size then (Region.ready md ops (marks c i l)).isEmpty else (Region.ready md ops (marks c i l)==[i+c]&&segB md ops segs (i+c+1) ((marks c i l).setIfInBounds (i+c) true)))
theorem X9x (hs:Region.noSelect ops=true) (hQ:∀c a w d u,Q (.panic c) (a.put d u) w→Q (.panic c) a w) :
  ∀(segs:List Nat) (i:Nat) (listed:Array Bool) (a:Act) (w:World) (rest:List Oper),(∀j,ops[i+j]? = rest[j]?)→segB md ops segs i listed=true→S w→wpSegs P ops S Q segs rest a w→wpAnyH P md ops Q S rest.length listed a w:=by
 intro segs
 induction segs with
 | nil=>intro i listed a w rest _ hb _ h;exact wpAnyH_done (by simpa [segB] using hb) h _
 | cons c segs ih=>
  intro i listed a w rest ho hb hS h;simp only[segB,Z19,decide_eq_true_eq]at hb;obtain⟨⟨hn,hq⟩,ht⟩:=hb
  have hlen:i+rest.length=ops.size∨rest.length=0∧ops.size≤i:=by
   rcases Nat.lt_or_ge i ops.size with h1 | h1
   ·left
    have e1:∀k,ops[k+i]? = rest[k]? := fun k=>by rw[Nat.add_comm];exact ho k
    have e2:=e1 rest.length;rw[List.getElem?_eq_none (Z00 _)]at e2
    have e3:ops.size≤rest.length+i:=by
     rcases Nat.lt_or_ge (rest.length+i) ops.size with h | h
     ·rw[Array.getElem?_eq_getElem h]at e2;cases e2
     ·exact h
    rcases Nat.lt_or_ge (ops.size-i) rest.length with h | h
    ·have e4:=ho (ops.size-i)
     rw[show i+(ops.size-i)=ops.size by omega,Array.getElem?_eq_none (Z00 _),Z37 h]at e4;cases e4
    ·omega
   ·right
    refine⟨?_,h1⟩;cases rest with
    | nil=>rfl
    | cons o r=>
     have:=ho 0
     rw[Nat.add_zero,Array.getElem?_eq_none h1]at this;cases this
  have hc:c≤rest.length:=(by omega);have hd:rest.length=(rest.drop c).length+c:=by rw[List.length_drop];omega
  rw[hd];refine Y5i hs hQ hS c i listed a (rest.take c) (fun j hj=>?_) (by rw[Z31];omega) hq ?_
  ·rw[ho j,List.getElem?_take_of_lt hj]
  ·unfold wpSegs at h
   refine Y0h (fun a' h'=>?_) _ _ h;have hdrop:∀j,ops[i+c+j]? = (rest.drop c)[j]? := fun j=>by rw[List.getElem?_drop,←ho (c+j),Nat.add_assoc]
   cases hr:rest.drop c with
   | nil=>
    rw[hr]at h'
    have hz:i+c=ops.size:=by
     have h0:(rest.drop c).length=0:=by rw[hr];rfl
     rw[List.length_drop]at h0;omega
    rw[if_pos hz]at ht;exact wpAnyH_done (by simpa using ht) h' _
   | cons o r=>
    rw[hr]at h' hdrop;have hi:ops[i+c]? = some o:=by have:=hdrop 0;simpa using this
    have hz:¬i+c=ops.size:=fun e=>by rw[e,Array.getElem?_eq_none (Z00 _)]at hi;cases hi
    rw[if_neg hz,Z19]at ht;have hready:Region.ready md ops (marks c i listed)=[i+c]:=(by simpa using ht.1);have next:∀a'' w',S w'→wpSegs P ops S Q segs r a'' w'→wpAnyH P md ops Q S r.length ((marks c i listed).setIfInBounds (i+c) true) a'' w':=fun a'' w' hS' hk=>ih (i+c+1) _ a'' w' r (fun j=>by have:=hdrop (j+1);rw[show i+c+1+j=i+c+(j+1) by omega,this];rfl) ht.2 hS' hk;show wpAnyH P md ops Q S (r.length+1) _ a' w;refine wpAnyH_ready hready (by simp) (AllReadyH.cons hi (fun K hK=>?_) AllReadyH.nil);have hK:∀a w,S w→(S w→wpAnyH P md ops Q S r.length ((marks c i listed).setIfInBounds (i+c) true) a w)→K a w:=hK;by_cases hw:Region.wanted o (yielded ops a'.tmps)=true
    ·simp only[hw,if_true]at h' ⊢
     exact Oper.wp_mono (fun a'' w' hk=>hK _ _ hk.1 (fun _=>next _ _ hk.1 hk.2)) h'
    ·simp only[hw]at h' ⊢
     exact hK _ _ hS (fun _=>next _ _ hS h')
theorem Y2k {o:Oper} {a:Act} {w:World} {K:Act→World→Prop} (h:∀K':Act→World→Prop,Bx (∀a w,K a w→K' a w)→o.wp P a w K' Q):o.wp P a w K Q:=h K ⟨fun _ _ h=>h⟩
theorem Y5h {R:Act→Prop} {rest:List Oper} {a:Act} (h:∀R':Act→Prop,Bx (∀a,R a→R' a)→wpHeld P ops S R' rest a):wpHeld P ops S R rest a:=h R ⟨fun _ h=>h⟩
theorem Y4v {R:Act→Prop} {a:Act} {o:Oper} {rest:List Oper}
  (h:∀K:Act→Prop,Bx (∀a,wpHeld P ops S R rest a→K a)→if Region.wanted o (yielded ops a.tmps) then ∃v,HeldAt P o a S v∧K (a.put o.dst v) else K (a.put o.dst undef)):wpHeld P ops S R (o::rest) a:=
 h _ ⟨fun _ h=>h⟩
theorem Y4k {id:Nat} {a:Act} {w:World} {l:List Oper} (S:World→Prop) (segs:List Nat) (hm:P.follows .mixedOrders=true) (hs:Region.noSelect l.toArray=true) (hB:segB .any l.toArray segs 0 (Array.replicate l.toArray.size false)=true)
  (hS:S w.drew) (hQ:∀c a w d u,Q (.panic c) (a.put d u) w→Q (.panic c) a w) (h:wpSegs P l.toArray S Q segs l a w.drew):(Code.region id l.toArray true).wp P Q a w:=by
 refine wp_region_held_drew (S:=S) hm hS (fun _=>?_)
 have:=X9x (md := .any) hs hQ segs 0 (Array.replicate l.toArray.size false) a w.drew l (fun j=>by simp) hB hS h
 simpa using this
end
end Go.Proofs.YtpmfiegfbmamiaaGreatDoor
