/- Contract of klass's reader: code. -/
import Derived.Test.YtpmfiegfbmamiaaDoorPm7
namespace Go.Proofs.YtpmfiegfbmamiaaDoor
set_option maxRecDepth 100000
set_option maxHeartbeats 8000000
open Go.RowKit
set_option linter.unusedSimpArgs false
theorem hnTy:ETy Tryd.prog 48 81 (.agg #[.int .i64 0,.int .i64 0,.int .i64 0,.string ⟨#[]⟩]) 4 40:=⟨Tryd.underlying48,info_parts (by kernel_rfl),rfl,by decide⟩
theorem Y6h:(Tryd.prog.info? 51).map (·.size)=some 9:=by kernel_rfl
structure Kcd (w0 wx:World) (gm gk gr gv lo:Nat) (l:List UInt8) (p:Nat) (x:ImE) (b:Bool) (cs:Array Value):Prop where
 bk:Bk wx gm 51 cs
 kd:Krd wx gk gr gv lo l p false x b
 ch:Ch w0 wx (fun k=>k=gr∨k=gm)
 od:gv<gm∧gm<lo
section
variable {w0 wx w':World} {gm gk gr gv lo:Nat} {l:List UInt8} {p p':Nat} {x:ImE} {b:Bool} {cs:Array Value}
theorem Kcd.set (h:Kcd w0 wx gm gk gr gv lo l p x b cs) (i:Nat) (u:Value):Kcd w0 (wx.setCell ⟨gm,i,none⟩ u) gm gk gr gv lo l p x b (cs.setIfInBounds i u):=
 ⟨h.bk.set i u,h.kd.mid Ch.one h.od.1 h.od.2,h.ch.trans Ch.one (fun _ _ e => .inr e),h.od⟩
theorem Kcd.step (h:Kcd w0 wx gm gk gr gv lo l p x b cs) (c:Ch wx w' (OneR gr)) (hk:Krd w' gk gr gv lo l p' false x b):Kcd w0 w' gm gk gr gv lo l p' x b cs:=
 ⟨h.bk.ch c (fun e=>by have e:gm=gr:=e;have:=h.od;have:=h.kd.low;omega),hk,h.ch.trans c (fun _ _ e => .inl e),h.od⟩
theorem Kcd.below (h:Kcd w0 wx gm gk gr gv lo l p x b cs) (c:Below wx.heap.size wx w'):Kcd w0 w' gm gk gr gv lo l p x b cs:=h.step (Ch.of_below c) (h.kd.below c)
theorem Kcd.chg {U:Nat→Prop} {B:Nat} (h:Kcd w0 wx gm gk gr gv lo l p x b cs) (c:Ch wx w' U) (hU:∀k,U k→B≤k) (hB:gr<B∧gk<B∧gm<B∧w0.heap.size≤B):Kcd w0 w' gm gk gr gv lo l p x b cs:=
 ⟨h.bk.ch c (fun e=>by have:=hU _ e;omega),h.kd.far c (fun k hk e=>by have:=hU k e;omega),h.ch.trans c (fun k hk e=>by have:=hU k e;omega),h.od⟩
theorem Kcd.frz (h:Kcd w0 wx gm gk gr gv lo l p x b cs) (i:Nat):wx.frozen? ⟨gm,i,none⟩=false:=h.bk.frz i
theorem Kcd.cell (h:Kcd w0 wx gm gk gr gv lo l p x b cs) {i:Nat} {u:Value} (hu:cs[i]? = some u):wx.cell? ⟨gm,i,none⟩=some u:=(h.bk.cell i).trans hu
theorem Kcd.lt (h:Kcd w0 wx gm gk gr gv lo l p x b cs):gm<wx.heap.size:=h.bk.lt
end
section
variable {pool:List Cst} {l:List UInt8} {n p p2 p3 p4 p5 f t a c:Nat} {s:List UInt8}
def hnR (pool:List Cst) (f t a c:Nat):Kr Hnd:=if c=0 then ifK (decide (f<t)) (retK ⟨f,t,a,[]⟩) else bndK (optK (plainK pool c)) fun s=>ifK (decide (f<t)) (retK ⟨f,t,a,s⟩)
theorem W5y (h:numK 2 n l p=none):hndK pool n l p=none:=Y9u h
theorem W5u (h:numK 2 n l p=some (f,p2)) (h2:numK 2 n l p2=none):hndK pool n l p=none:=(Y9v h).trans (Y9u h2)
theorem W4q (h:numK 2 n l p=some (f,p2)) (h2:numK 2 n l p2=some (t,p3)) (h3:numK 2 (n-1) l p3=none):hndK pool n l p=none:=(Y9v h).trans ((Y9v h2).trans (Y9u h3))
theorem W4l (h:numK 2 n l p=some (f,p2)) (h2:numK 2 n l p2=some (t,p3)) (h3:numK 2 (n-1) l p3=some (a,p4)) (h4:numK 2 65535 l p4=none):hndK pool n l p=none:=(Y9v h).trans ((Y9v h2).trans ((Y9v h3).trans (Y9u h4)))
theorem W4s (h:numK 2 n l p=some (f,p2)) (h2:numK 2 n l p2=some (t,p3)) (h3:numK 2 (n-1) l p3=some (a,p4)) (h4:numK 2 65535 l p4=some (c,p5)):hndK pool n l p=hnR pool f t a c l p5:=(Y9v h).trans ((Y9v h2).trans ((Y9v h3).trans (Y9v h4)))
def hnN (pool:List Cst) (c:Nat):Option (List UInt8):=if c=0 then some [] else plainK pool c
theorem W6c (h:hnN pool c=none):hnR pool f t a c l p=none:=by
 unfold hnN at h;unfold hnR
 split at h
 ·cases h
 ·rename_i hc
  rw[if_neg hc];exact Y9u (Y6i h)
theorem W6w (h:hnN pool c=some s):hnR pool f t a c l p=ifK (decide (f<t)) (retK ⟨f,t,a,s⟩) l p:=by
 unfold hnN at h;unfold hnR
 split at h
 ·rename_i hc
  injection h with h
  subst h;rw[if_pos hc]
 ·rename_i hc
  rw[if_neg hc];exact Y9v (Y7n h)
end
section
variable {pool:List Cst} {l d:List UInt8} {k n p p2 p3 p4 p5 i:Nat} {s:List UInt8} {seen:Bool} {fs:List Frm}
def atsR (pool:List Cst) (k:Nat) (seen:Bool) (fs:List Frm) (w d:List UInt8):Kr (List Frm):=if w=smtN then ifK (!seen) (bndK (optK (frmsK pool d)) fun fs'=>atsK pool k true fs') else atsK pool k seen fs
theorem W5o (h:numK 2 65535 l p=none):atsK pool (k+1) seen fs l p=none:=Y9u h
theorem W5e (h:numK 2 65535 l p=some (i,p2)) (h2:txtK pool i=none):atsK pool (k+1) seen fs l p=none:=(Y9v h).trans (Y9u (Y6i h2))
theorem W5f (h:numK 2 65535 l p=some (i,p2)) (h2:txtK pool i=some s) (h3:numK 4 4294967296 l p2=none):atsK pool (k+1) seen fs l p=none:=(Y9v h).trans ((Y9v (Y7n h2)).trans (Y9u h3))
theorem W4v (h:numK 2 65535 l p=some (i,p2)) (h2:txtK pool i=some s) (h3:numK 4 4294967296 l p2=some (n,p3)) (h4:bytK n l p3=none):atsK pool (k+1) seen fs l p=none:=(Y9v h).trans ((Y9v (Y7n h2)).trans ((Y9v h3).trans (Y9u h4)))
theorem W5h (h:numK 2 65535 l p=some (i,p2)) (h2:txtK pool i=some s) (h3:numK 4 4294967296 l p2=some (n,p3)) (h4:bytK n l p3=some (d,p4)):atsK pool (k+1) seen fs l p=atsR pool k seen fs s d l p4:=(Y9v h).trans ((Y9v (Y7n h2)).trans ((Y9v h3).trans (Y9v h4)))
theorem W6y (hs:s≠smtN):atsR pool k seen fs s d=atsK pool k seen fs:=by
 unfold atsR;rw[if_neg hs]
theorem X4i:atsR pool k true fs smtN d l p=none:=by
 unfold atsR;rw[if_pos rfl]
 rfl
theorem X0l (h:frmsK pool d=none):atsR pool k false fs smtN d l p=none:=by
 unfold atsR;rw[if_pos rfl];exact Y9u (Y6i h)
theorem W9s {fs':List Frm} (h:frmsK pool d=some fs'):atsR pool k false fs smtN d l p=atsK pool k true fs' l p:=by
 unfold atsR;rw[if_pos rfl];exact Y9v (Y7n h)
end
def codR (pool:List Cst) (least:Int):Kr Cod:=bndK (numK 2 64) fun st=>bndK (numK 2 64) fun lo=>bndK (numK 4 4096) fun n=>ifK (decide (least≤(lo:Int)∧0<n)) (bndK (bytK n) fun cd=>
 bndK (numK 2 64) fun h=>bndK (repK (hndK pool n) h) fun hs=>bndK (numK 2 64) fun k=>bndK (atsK pool k false []) fun fs=>bndK endK fun _=>retK (⟨st,lo,cd,hs,fs⟩:Cod))
def mtA (ac:Int) (nm ds:List UInt8) (th:Bool) (st lc:Int) (cd hv fv:Value):Array Value:=#[.int .i64 ac,strQ nm,strQ ds,.bool th,.int .i64 st,.int .i64 lc,cd,hv,fv]
def CodP (gm gr:Nat) (ac:Int) (nm ds:List UInt8) (o:Option (Cod×Nat)) (w:World) (e:Ending) (w':World):Prop:=
 (match o with
  | some (c,_)=>e = .returned (.tuple #[])∧∃y:MtE,y.p=⟨ac,nm,ds,true,c.stack,c.locals,c.code,c.handlers,c.frames⟩∧MtX w' (fun k=>w.heap.size≤k∧k<w'.heap.size) y∧Bk w' gm 51 (mtA ac nm ds true y.stack y.locals (slV y.code) y.hs.v y.fs.v)
  | none=>e = .panicked brkC)∧Ch w w' (fun k=>k=gr∨k=gm)
theorem X6w (least:Int) (ac:Int) (nm ds:List UInt8) (gm gk gr gv lo:Nat) (l:List UInt8) (x:ImE) (b:Bool) (w:World) (h:Krd w gk gr gv lo l 0 false x b) (hm:Bk w gm 51 (mtA ac nm ds false 0 0 (.slice none 0 0) (.slice none 0 0) (.slice none 0 0))) (hg:gv<gm∧gm<lo) :
  Calls Tryd.prog 67 #[.pointer (some ⟨gk,0,none⟩),.pointer (some ⟨gm,0,none⟩),.int .i64 least] w (CodP gm gr ac nm ds (codR x.p.pool least l 0) w):=by
 obtain⟨R,hR⟩:∃R,codR x.p.pool least l 0=R:=⟨_,rfl⟩;rw[hR];have HR:=bx hR;have hs0:Kcd w w gm gk gr gv lo l 0 x b (mtA ac nm ds false 0 0 (.slice none 0 0) (.slice none 0 0) (.slice none 0 0)):=⟨hm,h,Ch.refl _,hg⟩;have hgm:=hs0.lt;have hfz:=hs0.frz 3;have hcl:w.cell? ⟨gm,3,none⟩=some (.bool false):=hs0.cell rfl;have Vh:=bx hs0;have Vn:Bx (gr<w.heap.size∧gk<w.heap.size∧gm<w.heap.size):=bx ⟨h.lt.2.1,h.lt.1,hgm⟩;clear h hR hm hg hs0
 go_enter Tryd.func67,Tryd.ntmps67
 go_upto_region 1 with(fail)
 have Sg:Bx (Kcd w (w.setCell ⟨gm,3,none⟩ (.bool true)) gm gk gr gv lo l 0 x b (mtA ac nm ds true 0 0 (.slice none 0 0) (.slice none 0 0) (.slice none 0 0))):=bx (Vh.out.set 3 (.bool true));generalize w.setCell ⟨gm,3,none⟩ (.bool true)=w1 at Sg ⊢;clear hgm hfz hcl Vh;have hno:∀wq,R=none→Ch w wq (fun k=>k=gr∨k=gm)→CodP gm gr ac nm ds R w (.panicked brkC) wq:=fun wq h c=>by rw[h];exact⟨rfl,c⟩
 have Yh:=bx hno;clear hno;go_wp2_with fail
 refine Y8x 2 64 Sg.out.kd (by decide) (by decide) ?_ ?_
 ·intro h w2 hc
  have HX:Bx (R=none):=bx (by rw[←HR.out];exact Y9u h);go_wp2;exact⟨rfl,Yh.out _ HX.out (Sg.out.ch.trans hc (fun _ _ e => .inl e))⟩
 intro st p1 hn w2 hc hk;have Xd:=bx (HR.out.symm.trans (Y9v hn));have Wf:=bx (Sg.out.step hc hk);clear hn hc hk Sg HR;have hgm:=Wf.out.lt;have hfz:=Wf.out.frz 4;have hcl:w2.cell? ⟨gm,4,none⟩=some (.int .i64 0):=Wf.out.cell rfl;go_upto_region 2 with(fail)
 have Xp:Bx (Kcd w (w2.setCell ⟨gm,4,none⟩ (.int .i64 (st:Int))) gm gk gr gv lo l p1 x b (mtA ac nm ds true st 0 (.slice none 0 0) (.slice none 0 0) (.slice none 0 0))):=bx (Wf.out.set 4 _);generalize w2.setCell ⟨gm,4,none⟩ (.int .i64 (st:Int))=w3 at Xp ⊢;clear hgm hfz hcl Wf;go_wp2_with fail
 refine Y8x 2 64 Xp.out.kd (by decide) (by decide) ?_ ?_
 ·intro h w2 hc
  have HX:Bx (R=none):=bx (by rw[Xd.out];exact Y9u h);go_wp2;exact⟨rfl,Yh.out _ HX.out (Xp.out.ch.trans hc (fun _ _ e => .inl e))⟩
 intro lc p2 hn w4 hc hk;have Wx:=bx (Xd.out.trans (Y9v hn));have Yn:=bx (Xp.out.step hc hk);clear hn hc hk Xp Xd;have hgm:=Yn.out.lt;have hfz:=Yn.out.frz 5;have hcl:w4.cell? ⟨gm,5,none⟩=some (.int .i64 0):=Yn.out.cell rfl;go_upto_region 3 with(fail)
 have Yf:Bx (Kcd w (w4.setCell ⟨gm,5,none⟩ (.int .i64 (lc:Int))) gm gk gr gv lo l p2 x b (mtA ac nm ds true st lc (.slice none 0 0) (.slice none 0 0) (.slice none 0 0))):=bx (Yn.out.set 5 _);generalize w4.setCell ⟨gm,5,none⟩ (.int .i64 (lc:Int))=w5 at Yf ⊢;clear hgm hfz hcl Yn;go_wp2_with fail
 refine Y8x 4 4096 Yf.out.kd (by decide) (by decide) ?_ ?_
 ·intro h w2 hc
  have HX:Bx (R=none):=bx (by rw[Wx.out];exact Y9u h);go_wp2;exact⟨rfl,Yh.out _ HX.out (Yf.out.ch.trans hc (fun _ _ e => .inl e))⟩
 intro n p3 hn w6 hc hk;have Vf:=bx (Wx.out.trans (Y9v hn));have hn4:n≤4096:=Y7e hn;have Xx:=bx (Yf.out.step hc hk);clear hn hc hk Yf Wx;have hgm:=Xx.out.lt;have hcl:w6.cell? ⟨gm,5,none⟩=some (.int .i64 (lc:Int)):=Xx.out.cell rfl;go_upto_region 4 with(fail)
 obtain⟨q,hq⟩:∃q,decide (least≤(lc:Int)∧0<n)=q:=⟨_,rfl⟩;have HQ:=bx hq;clear hq;by_cases hq1:least≤(lc:Int)
 case neg=>
  have hq1d:decide (least≤(lc:Int))=false:=Z48 hq1;have HX:Bx (R=none):=bx (by rw[Vf.out,Z48 (by omega)];rfl);go_wp2_with fail
  refine Y9w _ (fun _=>?_) (fun e=>by cases e);go_wp2;exact⟨rfl,Yh.out _ HX.out Xx.out.ch⟩
 case pos=>
 have hq1d:decide (least≤(lc:Int))=true:=Z47 hq1;by_cases hq2:0<n
 case neg=>
  have hq2I:¬0<(n:Int):=(by omega);have hq2d:decide (0<(n:Int))=false:=Z48 hq2I;have HX:Bx (R=none):=bx (by rw[Vf.out,Z48 (by omega)];rfl);go_wp2_with fail
  refine Y9w _ (fun _=>?_) (fun e=>by cases e);go_wp2;exact⟨rfl,Yh.out _ HX.out Xx.out.ch⟩
 case pos=>
 have hq2I:0<(n:Int):=(by omega);have hq2d:decide (0<(n:Int))=true:=Z47 hq2I;have Su:Bx (R=(bndK (bytK n) fun cd=>bndK (numK 2 64) fun h=>bndK (repK (hndK x.p.pool n) h) fun hs=>bndK (numK 2 64) fun k=>bndK (atsK x.p.pool k false []) fun fs=>bndK endK fun _=>retK (⟨st,lc,cd,hs,fs⟩:Cod)) l p3):=bx (by rw[Vf.out,Z47 ⟨hq1,hq2⟩];rfl);clear Vf HQ;go_wp2_with fail
 refine Y9w _ (fun e=>by cases e) (fun _=>?_);have hrd:w6.cell? ⟨gk,0,none⟩=some (.pointer (some ⟨gr,0,none⟩)):=(Xx.out.kd.box.cell 0).trans rfl;have hgk:=Xx.out.kd.lt.1;go_wp2_with fail
 refine Y1p n Xx.out.kd ?_ ?_
 ·intro h A c w7 hc hk
  have HX:Bx (R=none):=bx (by rw[Su.out];exact Y9u h);have hbk:=Xx.out.bk.ch hc (fun e=>by have e:gm=gr:=e;have:=Xx.out.od;have:=Xx.out.kd.low;omega);have hfz:=hbk.frz 6;have hcl:w7.cell? ⟨gm,6,none⟩=some (.slice none 0 0):=(hbk.cell 6).trans rfl;have Ye:=bx (hk.mid (gm:=gm) (Ch.one (i:=6) (u := .slice A 0 c)) Xx.out.od.1 Xx.out.od.2);have Kz:Bx (Ch w (w7.setCell ⟨gm,6,none⟩ (.slice A 0 c)) (fun k=>k=gr∨k=gm)):=bx ((Xx.out.ch.trans hc (fun _ _ e => .inl e)).trans Ch.one (fun _ _ e => .inr e));clear hbk hc hk;go_wp2_with fail
  refine(X1e 2 64 gk gr gv lo l _ x b _ Ye.out).mono ?_
  rintro e w8 ⟨rfl,hc8⟩;go_wp2;exact⟨rfl,Yh.out _ HX.out (Kz.out.trans hc8 (fun _ _ e => .inl e))⟩
 intro cd A7 c7 hn w7 hc hk hO;have To:=bx (Su.out.trans (Y9v hn));have hs7:=Xx.out.step hc hk;have Vy:Bx (SlX w7 (Nw w w7) ⟨A7,n,c7,cd⟩):=bx (SlX.of hO (fun k h1 h2=>⟨Z08 Xx.out.ch.size h1,h2⟩));have Wq:=bx hs7;clear hn hc hk hO hs7 Su Xx hgm hcl hrd hgk;have hgm:=Wq.out.lt;have hfz:=Wq.out.frz 6;have hcl:w7.cell? ⟨gm,6,none⟩=some (.slice none 0 0):=Wq.out.cell rfl;go_upto_region 6 with(fail)
 have Tw:Bx (Kcd w (w7.setCell ⟨gm,6,none⟩ (.slice A7 n c7)) gm gk gr gv lo l (p3+n) x b (mtA ac nm ds true st lc (.slice A7 n c7) (.slice none 0 0) (.slice none 0 0))):=bx (Wq.out.set 6 _);have Fz:Bx (SlX (w7.setCell ⟨gm,6,none⟩ (.slice A7 n c7)) (Nw w (w7.setCell ⟨gm,6,none⟩ (.slice A7 n c7))) ⟨A7,n,c7,cd⟩):=bx (Vy.out.step (Nw.ch Ch.one (fun k hk e=>by have e:k=gm:=e;have:=Vn.out;omega)) (Nw.up (Ch.one (g:=gm) (i:=6))));generalize w7.setCell ⟨gm,6,none⟩ (.slice A7 n c7)=w8 at Tw Fz ⊢;obtain⟨p4,hp4⟩:∃p4,p3+n=p4:=⟨_,rfl⟩;rw[hp4]at Tw To;clear hgm hfz hcl Wq Vy hp4;go_wp2_with fail
 refine Y8x 2 64 Tw.out.kd (by decide) (by decide) ?_ ?_
 ·intro h w2 hc
  have HX:Bx (R=none):=bx (by rw[To.out];exact Y9u h);go_wp2;exact⟨rfl,Yh.out _ HX.out (Tw.out.ch.trans hc (fun _ _ e => .inl e))⟩
 intro H0 p5 hn w9 hc hk;have Rb:=bx (To.out.trans (Y9v hn));have F3:Bx (H0≤64):=bx (Y7e hn);have Ym:=bx (Tw.out.step hc hk);have Bo:Bx (SlX w9 (Nw w w9) ⟨A7,n,c7,cd⟩):=bx (Fz.out.step (Nw.ch hc (fun k hk e=>by have e:k=gr:=e;have:=Vn.out;omega)) (Nw.up hc));clear hn hc hk Tw To Fz;go_wp2_with fail
 go_loopw [7] (fun kv wx=>∃(m j:Nat) (hs:List Hnd) (hv:Value) (p:Nat),j+m=H0∧kv = .int .i64 (m:Int)∧Bx (hs.length=j∧OwS hnC 4 wx w.heap.size 81 hv hs∧Kcd w wx gm gk gr gv lo l p x b (mtA ac nm ds true st lc (.slice A7 n c7) hv (.slice none 0 0))∧SlX wx (Bff w.heap.size wx hv) ⟨A7,n,c7,cd⟩∧RepK (hndK x.p.pool n) l p5 H0 j hs p)) (fun kv _=>(intOf kv).toNat)
 case atStart=>exact⟨H0,0,[],_,p5,by omega,rfl,bx ⟨rfl,OwS.nil,Ym.out,Bo.out.step (fun _ _=>rfl) (fun k hk=>⟨hk.1,hk.2,by simp [Value.ownBlock]⟩),RepK.start _ _ _ _⟩⟩
 case round=>
  obtain⟨m,j,hs,hv,p,hj,rfl,Zs⟩:=hrel;obtain⟨A2,c2_,hv2,_,_⟩:=OwS.rd Zs.out.2.1;subst hv2;have HJ:=bx hj;have hm6:m≤64:=by have:=F3.out;omega
  clear hj Ym Bo;by_cases hm:0<m
  ·skip
   -- DEV{
   have hmI:0<(m:Int):=(by omega);have hmd:decide (0<(m:Int))=true:=Z47 hmI
   have hstop:∀wq,hndK x.p.pool n l p=none→Ch wr wq (OneR gr)→CodP gm gr ac nm ds R w (.panicked brkC) wq:=fun wq h c=>by
    have hX:R=none:=by rw[Rb.out];exact Y9u (Zs.out.2.2.2.2.stop (by have:=HJ.out;omega) h)
    exact Yh.out _ hX (Zs.out.2.2.1.ch.trans c (fun _ _ e => .inl e))
   have Zw:=bx hstop;clear hstop;go_wp2_with fail
   refine Y8x 2 n Zs.out.2.2.1.kd (by decide) (by omega) ?_ ?_
   ·intro h w2 hc
    go_wp2;exact⟨rfl,Zw.out _ (W5y h) hc⟩
   intro f q2 hf w2 hc2 hk2;have hst:=Kst.new (T:=81) #[.int .i64 (f:Int),.int .i64 0,.int .i64 0,.string ⟨#[]⟩] hk2 hc2;have HF:=bx hf;clear hf hc2 hk2;go_upto_region 10 with(fail)
   obtain⟨w3,hw3⟩:∃w3,w2.alloc (.cells #[.int .i64 (f:Int),.int .i64 0,.int .i64 0,.string ⟨#[]⟩] 81)=w3:=⟨_,rfl⟩;obtain⟨g,hg⟩:∃g,w2.heap.size=g:=⟨_,rfl⟩;rw[hw3,hg]at hst;rw[hw3,hg];have Xp:=bx hst;clear hst hw3 hg;go_wp2_with fail
   refine Y8x 2 n Xp.out.kd (by decide) (by omega) ?_ ?_
   ·intro h w4 hc
    go_wp2;exact⟨rfl,Zw.out _ (W5u HF.out h) (Xp.out.ch.trans hc (fun _ _ e=>e))⟩
   intro t q3 ht w4 hc4 hk4;have Yn:=bx (Xp.out.step hc4 hk4);have HT:=bx ht;clear ht hc4 hk4 Xp;have hg4:=Yn.out.lt;have hfz:=Yn.out.frz 1;have hcl:w4.cell? ⟨g,1,none⟩=some (.int .i64 0):=Yn.out.cell rfl;go_upto_region 11 with(fail)
   have Yf:Bx (Kst 81 wr (w4.setCell ⟨g,1,none⟩ (.int .i64 (t:Int))) g gk gr gv lo l q3 x b #[.int .i64 (f:Int),.int .i64 (t:Int),.int .i64 0,.string ⟨#[]⟩]):=bx (Yn.out.set 1 _);generalize w4.setCell ⟨g,1,none⟩ (.int .i64 (t:Int))=w5 at Yf ⊢;clear hg4 hfz hcl Yn;obtain⟨n1,hn1⟩:∃n1,n-1=n1:=⟨_,rfl⟩;have hn1I:(n:Int)-1=(n1:Int):=(by omega);have Wu:=bx hn1;clear hn1;go_wp2_with fail
   refine Y8x 2 n1 Yf.out.kd (by decide) (by omega) ?_ ?_
   ·intro h w4 hc
    go_wp2;exact⟨rfl,Zw.out _ (W4q HF.out HT.out (by rw[Wu.out];exact h)) (Yf.out.ch.trans hc (fun _ _ e=>e))⟩
   intro a q4 ha w6 hc6 hk6;have Xx:=bx (Yf.out.step hc6 hk6);have HA:Bx (numK 2 (n-1) l q3=some (a,q4)):=bx (by rw[Wu.out];exact ha);clear ha hc6 hk6 Yf hn1I Wu;have hg4:=Xx.out.lt;have hfz:=Xx.out.frz 2;have hcl:w6.cell? ⟨g,2,none⟩=some (.int .i64 0):=Xx.out.cell rfl;go_upto_region 12 with(fail)
   have Wq:Bx (Kst 81 wr (w6.setCell ⟨g,2,none⟩ (.int .i64 (a:Int))) g gk gr gv lo l q4 x b #[.int .i64 (f:Int),.int .i64 (t:Int),.int .i64 (a:Int),.string ⟨#[]⟩]):=bx (Xx.out.set 2 _);generalize w6.setCell ⟨g,2,none⟩ (.int .i64 (a:Int))=w7 at Wq ⊢;clear hg4 hfz hcl Xx;go_wp2_with fail
   refine Y8x 2 65535 Wq.out.kd (by decide) (by decide) ?_ ?_
   ·intro h w4 hc
    go_wp2;exact⟨rfl,Zw.out _ (W4l HF.out HT.out HA.out h) (Wq.out.ch.trans hc (fun _ _ e=>e))⟩
   intro c q5 hcq w8 hc8 hk8;have Tw:=bx (Wq.out.step hc8 hk8);have Bn:Bx (hndK x.p.pool n l p=hnR x.p.pool f t a c l q5):=bx (W4s HF.out HT.out HA.out hcq);clear hcq hc8 hk8 Wq HF HT HA;go_upto_region 13 with(fail)
   go_upto_if 71 with(fail)
   go_cut [77] from 71 to 78 (fun _ wx=>∃(nm:List UInt8),Bx (hnN x.p.pool c=some nm∧Kst 81 wr wx g gk gr gv lo l q5 x b #[.int .i64 (f:Int),.int .i64 (t:Int),.int .i64 (a:Int),strQ nm]))
   case first=>
    clear Zs Rb;by_cases hc0:c=0
    ·have hcI:((c:Int) != 0)=false:=by simp;omega
     have Pj:=bx hc0;clear hc0;go_wp2_with fail
     go_meet
     exact⟨[],bx ⟨by unfold hnN;rw[if_pos Pj.out],Tw.out⟩⟩
    ·have hcI:((c:Int) != 0)=true:=by simp;omega
     have hrd:w8.cell? ⟨gk,1,none⟩=some (.pointer (some ⟨gv,0,none⟩)):=(Tw.out.kd.box.cell 1).trans rfl;have hgk:=Tw.out.kd.lt.1;have hg8:=Tw.out.lt;go_wp2_with fail
     refine Y8m (x:=x) (b:=b) c Tw.out.kd.vw ?_ ?_
     ·intro h w9 hb
      go_wp2;exact⟨rfl,Zw.out _ (by rw[Bn.out];exact W6c (by unfold hnN;rw[if_neg hc0];exact h)) (Tw.out.ch.trans (Ch.of_below (S:=OneR gr) hb) (fun _ _ e=>e))⟩
     intro s hs9 w9 hb;have Ym:=bx (Tw.out.below hb);have Wi:Bx (hnN x.p.pool c=some s):=bx (by unfold hnN;rw[if_neg hc0];exact hs9);clear hs9 hb hrd hgk hg8 Tw;have hg9:=Ym.out.lt;have hfz:=Ym.out.frz 3;have hcl:w9.cell? ⟨g,3,none⟩=some (.string ⟨#[]⟩):=Ym.out.cell rfl;go_wp2_with fail
     go_meet
     exact⟨s,bx ⟨Wi.out,Ym.out.set 3 _⟩⟩
   case rest=>
    obtain⟨nm,hC⟩:=hcut;go_step;go_step;go_upto_region 15 with(fail)
    have Ym:=bx hC.out.2;have Bm:Bx (hndK x.p.pool n l p=ifK (decide (f<t)) (retK (⟨f,t,a,nm⟩:Hnd)) l q5):=bx (Bn.out.trans (W6w hC.out.1));have c0:wc.cell? ⟨g,0,none⟩=some (.int .i64 (f:Int)):=Ym.out.cell rfl;have c1:wc.cell? ⟨g,1,none⟩=some (.int .i64 (t:Int)):=Ym.out.cell rfl;have c2:wc.cell? ⟨g,2,none⟩=some (.int .i64 (a:Int)):=Ym.out.cell rfl;have c3:wc.cell? ⟨g,3,none⟩=some (strQ nm):=Ym.out.cell rfl;clear hC Tw Bn;by_cases hft:f<t
    case neg=>
     have hfI:¬(f:Int)<(t:Int):=(by omega);have hfd:decide ((f:Int)<(t:Int))=false:=Z48 hfI;go_wp2_with fail
     refine Y9w _ (fun _=>?_) (fun e=>by cases e);go_wp2;exact⟨rfl,Zw.out _ (by rw[Bm.out,Z48 hft];rfl) Ym.out.ch⟩
    case pos=>
    have hfI:(f:Int)<(t:Int):=(by omega);have hfd:decide ((f:Int)<(t:Int))=true:=Z47 hfI;go_wp2_with fail
    refine Y9w _ (fun e=>by cases e) (fun _=>?_);have Vg:=bx (Zs.out.2.2.1.step Ym.out.ch Ym.out.kd);have c7:wc.cell? ⟨gm,7,none⟩=some (.slice A2 hs.length c2_):=Vg.out.cell rfl;have f7:=Vg.out.frz 7;have HY:Bx (hndK x.p.pool n l p=some (⟨f,t,a,nm⟩,q5)):=bx (by rw[Bm.out,Z47 hft];rfl);clear Bm Zw;go_wp2_with fail
    have Fy:=bx (Ym.out.below (below_drewN (Below.refl _ _) 1));have c7d:wc.drew.cell? ⟨gm,7,none⟩=some (.slice A2 hs.length c2_):=c7;have hba:=Y9z (Below.refl wc.drew.heap.size wc.drew) (Z00 _) (.cells #[.int .i64 (f:Int),.int .i64 (t:Int),.int .i64 (a:Int),strQ nm] 81);have hs12:=Fy.out.below hba;have Vx:=bx hs12;have Mj:=bx ((Vg.out.below (below_drewN (Below.refl _ _) 1)).below hba);have Fx:Bx (Ch wr (wc.drew.alloc (.cells #[.int .i64 (f:Int),.int .i64 (t:Int),.int .i64 (a:Int),strQ nm] 81)) (OneR gr)):=bx hs12.ch;have Fw:=bx (Zs.out.2.1.one hs12.ch Vn.out.1);have Zd:=bx (RS.new (fC:=hnC) wc.drew ⟨f,t,a,nm⟩ #[.int .i64 (f:Int),.int .i64 (t:Int),.int .i64 (a:Int),strQ nm] rfl 81 (0,0));have Lc:Bx ((hs.length+[(⟨f,t,a,nm⟩:Hnd)].length)*40≤140737488355328):=bx (by simp only[Z11,Z13];have:=Zs.out.1;have:=HJ.out;have:=F3.out;omega);have hz:w.heap.size≤(wc.drew.alloc (.cells #[.int .i64 (f:Int),.int .i64 (t:Int),.int .i64 (a:Int),strQ nm] 81)).heap.size:=Mj.out.ch.size;have Cr:Bx (∀q,(Value.slice A2 hs.length c2_).ownBlock=some q→w.heap.size≤q∧q≠g):=bx (fun q e=>by have h1:=Zs.out.2.1.blk e;have h2:=Fy.out.lo;omega);have c7e:(wc.drew.alloc (.cells #[.int .i64 (f:Int),.int .i64 (t:Int),.int .i64 (a:Int),strQ nm] 81)).cell? ⟨gm,7,none⟩=some (.slice A2 hs.length c2_):=Mj.out.cell rfl;have Mi:=bx (Zs.out.2.2.2.1.step (w':=(wc.drew.alloc (.cells #[.int .i64 (f:Int),.int .i64 (t:Int),.int .i64 (a:Int),strQ nm] 81))) (Y:=Bff w.heap.size (wc.drew.alloc (.cells #[.int .i64 (f:Int),.int .i64 (t:Int),.int .i64 (a:Int),strQ nm] 81)) (.slice A2 hs.length c2_)) (fun k hk=>Fx.out.same k hk.2.1 (fun e=>by have e:k=gr:=e;have:=Vn.out;have:=hk.1;omega)) (fun k hk=>⟨hk.1,Z07 hk.2.1 Fx.out.size,hk.2.2⟩));have Bl:=bx (Zs.out.2.2.2.2.next (by have:=HJ.out;omega) HY.out);have Kg:=bx Zs.out.1;have hgm:gm<wc.heap.size:=Vg.out.lt;have Ph:Bx (gm<g):=bx (by have h1:=Ym.out.lo;have h2:=Vn.out;have h3:=Zs.out.2.2.1.ch.size;omega);obtain⟨w12,hw12⟩:∃w12,wc.drew.alloc (.cells #[.int .i64 (f:Int),.int .i64 (t:Int),.int .i64 (a:Int),strQ nm] 81)=w12:=⟨_,rfl⟩;rw[hw12]at Vx Mj Fx Fw Zd hz c7e Mi;have Bj:Bx ((wc.alloc (.cells #[.int .i64 (f:Int),.int .i64 (t:Int),.int .i64 (a:Int),strQ nm] 81)).drew=w12):=bx hw12;clear hw12;clear hba hs12 Fy Zs Rb Vg Ym HY c7;refine Y9x (S:=fun w'=>w'.cell? ⟨g,0,none⟩=some (.int .i64 (f:Int))∧w'.cell? ⟨g,1,none⟩=some (.int .i64 (t:Int))∧w'.cell? ⟨g,2,none⟩=some (.int .i64 (a:Int))∧w'.cell? ⟨g,3,none⟩=some (strQ nm)) (.tk 0 (.tk 1 (.tk 2 (.tk 3 (.tk 5 (.alt 4 (.rn 6 (.rn 7 (.tk 8 (.tk 9 (.rn 10 .fin))))) (.rn 6 (.rn 4 (.rn 7 (.tk 8 (.tk 9 (.rn 10 .fin)))))))))))) (by kernel_rfl) (by kernel_rfl) (by kernel_rfl) (fun _ _ _ _ h=>h) ⟨c0,c1,c2,c3⟩ ?_
    iterate 5 (apply SeqW.take;(· rfl);(· (refine Or.inl ⟨?_,?_⟩;(· rfl);(· (intro w hSw;(try dsimp only at hSw);go_simp <;> with_reducible rfl))));simp only[Act.put,Z01,Z02,Z03,Z06,Z04,Z05])
    refine SeqW.both rfl (fun K hK hP=>?_) ?_
    ·go_wp2_with fail
     refine hK.out _ _ ⟨c0,c1,c2,c3⟩ ?_;clear hK hP K;refine SeqW.run rfl (fun K hK hP=>?_);go_wp2_with fail
     rw[Bj.out];refine hK.out _ _ ⟨Vx.out.cell rfl,Vx.out.cell rfl,Vx.out.cell rfl,Vx.out.cell rfl⟩ ?_;clear hK hP K;refine SeqW.run rfl (fun K hK hP=>?_);refine Y9y _ hnCels rfl (.tmp 89) (.tmp 91) rfl hnTy (by decide) w.heap.size (.slice A2 hs.length c2_) hs rfl Fw.out (wc.heap.size+1) (some ⟨wc.heap.size,0,none⟩) 1 1 [⟨f,t,a,nm⟩] rfl rfl Zd.out Lc.out hz ?_;intro V7 w13 hO13 hg13 hv13 hb13;refine wpList_nil ?_;have hcU:Ch w12 w13 (fun k=>(Value.slice A2 hs.length c2_).ownBlock=some k):=Ch.of_grown hg13 (fun _ e=>e);have h13:=Vx.out.chg hcU Cr.out ⟨Vn.out.1,Vn.out.2.1⟩;have Ry:=bx (Mj.out.chg hcU (fun k e=>(Cr.out k e).1) ⟨Vn.out.1,Vn.out.2.1,Vn.out.2.2,Z00 _⟩)
     have Mh:=bx (Mi.out.step (w':=w13) (Y:=Bff w.heap.size w13 V7) (fun k hk=>hcU.same k hk.2.1 hk.2.2) (fun k hk=>⟨hk.1,Z07 hk.2.1 hcU.size,fun e=>by
      rcases hv13 with h1 | h1
      ·rw[h1]at e;exact hk.2.2 e
      ·rw[h1]at e;injection e with e;have:=hk.2.1;omega⟩))
     refine hK.out _ _ ⟨(h13.1.cell 0).trans rfl,(h13.1.cell 1).trans rfl,(h13.1.cell 2).trans rfl,(h13.1.cell 3).trans rfl⟩ ?_;clear hK hP K;obtain⟨A8,c8,e8,_,_⟩:=hO13.rd;obtain⟨n8,hn8⟩:∃n8,(hs++[(⟨f,t,a,nm⟩:Hnd)]).length=n8:=⟨_,rfl⟩;rw[hn8]at e8;subst e8;have Fv:=bx hO13;have Mg:=bx h13.1;clear hn8 hO13 hg13 hv13 hb13 hcU h13;simp only[Act.put,Z01,Z02,Z03,Z06,Z04,Z05]
     iterate 2 (apply SeqW.take;(· rfl);(· (refine Or.inl ⟨?_,?_⟩;(· rfl);(· (intro w hSw;(try dsimp only at hSw);go_simp <;> with_reducible rfl))));simp only[Act.put,Z01,Z02,Z03,Z06,Z04,Z05])
     refine SeqW.run rfl (fun K hK hP=>?_);have hgm:=Ry.out.lt;have hfz:=Ry.out.frz 7;have hcl:w13.cell? ⟨gm,7,none⟩=some (.slice A2 hs.length c2_):=Ry.out.cell rfl;go_wp2_with fail
     have hb14:=Mg.out.far (p:=⟨gm,7,none⟩) (fun e=>by have e:g=gm:=e;have:=Ph.out;omega) (.slice A8 n8 c8);refine hK.out _ _ ⟨(hb14.cell 0).trans rfl,(hb14.cell 1).trans rfl,(hb14.cell 2).trans rfl,(hb14.cell 3).trans rfl⟩ ?_;clear hK hP K hfz hcl hb14;refine SeqW.done ?_;go_wp2_with fail
     go_roundw
     case rel=>exact⟨m-1,j+1,hs++[⟨f,t,a,nm⟩],.slice A8 n8 c8,q5,by have:=HJ.out;omega,by go_num,bx ⟨by rw[Z09,Kg.out];rfl,Fv.out.far Vn.out.2.2,Ry.out.set 7 _,Mh.out.step (fun k hk=>(Ch.one (g:=gm) (i:=7) (u := .slice A8 n8 c8)).same k hk.2.1 (fun e=>by have e:k=gm:=e;have:=Vn.out;have:=hk.1;omega)) (fun k hk=>⟨hk.1,Z07 hk.2.1 (Ch.one (g:=gm) (i:=7) (u := .slice A8 n8 c8)).size,hk.2.2⟩),Bl.out⟩⟩
     case measure=>simp [intOf];omega
    ·refine SeqW.run rfl (fun K hK hP=>?_)
     go_wp2_with fail
     rw[Bj.out];refine hK.out _ _ ⟨Vx.out.cell rfl,Vx.out.cell rfl,Vx.out.cell rfl,Vx.out.cell rfl⟩ ?_;clear hK hP K;refine SeqW.run rfl (fun K hK hP=>?_);go_wp2_with fail
     refine hK.out _ _ ⟨Vx.out.cell rfl,Vx.out.cell rfl,Vx.out.cell rfl,Vx.out.cell rfl⟩ ?_;clear hK hP K;refine SeqW.run rfl (fun K hK hP=>?_);refine Y9y _ hnCels rfl (.tmp 89) (.tmp 91) rfl hnTy (by decide) w.heap.size (.slice A2 hs.length c2_) hs rfl Fw.out (wc.heap.size+1) (some ⟨wc.heap.size,0,none⟩) 1 1 [⟨f,t,a,nm⟩] rfl rfl Zd.out Lc.out hz ?_;intro V7 w13 hO13 hg13 hv13 hb13;refine wpList_nil ?_;have hcU:Ch w12 w13 (fun k=>(Value.slice A2 hs.length c2_).ownBlock=some k):=Ch.of_grown hg13 (fun _ e=>e);have h13:=Vx.out.chg hcU Cr.out ⟨Vn.out.1,Vn.out.2.1⟩;have Ry:=bx (Mj.out.chg hcU (fun k e=>(Cr.out k e).1) ⟨Vn.out.1,Vn.out.2.1,Vn.out.2.2,Z00 _⟩)
     have Mh:=bx (Mi.out.step (w':=w13) (Y:=Bff w.heap.size w13 V7) (fun k hk=>hcU.same k hk.2.1 hk.2.2) (fun k hk=>⟨hk.1,Z07 hk.2.1 hcU.size,fun e=>by
      rcases hv13 with h1 | h1
      ·rw[h1]at e;exact hk.2.2 e
      ·rw[h1]at e;injection e with e;have:=hk.2.1;omega⟩))
     refine hK.out _ _ ⟨(h13.1.cell 0).trans rfl,(h13.1.cell 1).trans rfl,(h13.1.cell 2).trans rfl,(h13.1.cell 3).trans rfl⟩ ?_;clear hK hP K;obtain⟨A8,c8,e8,_,_⟩:=hO13.rd;obtain⟨n8,hn8⟩:∃n8,(hs++[(⟨f,t,a,nm⟩:Hnd)]).length=n8:=⟨_,rfl⟩;rw[hn8]at e8;subst e8;have Fv:=bx hO13;have Mg:=bx h13.1;clear hn8 hO13 hg13 hv13 hb13 hcU h13;simp only[Act.put,Z01,Z02,Z03,Z06,Z04,Z05]
     iterate 2 (apply SeqW.take;(· rfl);(· (refine Or.inl ⟨?_,?_⟩;(· rfl);(· (intro w hSw;(try dsimp only at hSw);go_simp <;> with_reducible rfl))));simp only[Act.put,Z01,Z02,Z03,Z06,Z04,Z05])
     refine SeqW.run rfl (fun K hK hP=>?_);have hgm:=Ry.out.lt;have hfz:=Ry.out.frz 7;have hcl:w13.cell? ⟨gm,7,none⟩=some (.slice A2 hs.length c2_):=Ry.out.cell rfl;go_wp2_with fail
     have hb14:=Mg.out.far (p:=⟨gm,7,none⟩) (fun e=>by have e:g=gm:=e;have:=Ph.out;omega) (.slice A8 n8 c8);refine hK.out _ _ ⟨(hb14.cell 0).trans rfl,(hb14.cell 1).trans rfl,(hb14.cell 2).trans rfl,(hb14.cell 3).trans rfl⟩ ?_;clear hK hP K hfz hcl hb14;refine SeqW.done ?_;go_wp2_with fail
     go_roundw
     case rel=>exact⟨m-1,j+1,hs++[⟨f,t,a,nm⟩],.slice A8 n8 c8,q5,by have:=HJ.out;omega,by go_num,bx ⟨by rw[Z09,Kg.out];rfl,Fv.out.far Vn.out.2.2,Ry.out.set 7 _,Mh.out.step (fun k hk=>(Ch.one (g:=gm) (i:=7) (u := .slice A8 n8 c8)).same k hk.2.1 (fun e=>by have e:k=gm:=e;have:=Vn.out;have:=hk.1;omega)) (fun k hk=>⟨hk.1,Z07 hk.2.1 (Ch.one (g:=gm) (i:=7) (u := .slice A8 n8 c8)).size,hk.2.2⟩),Bl.out⟩⟩
     case measure=>simp [intOf];omega
   -- DEV}
  ·have hmI:¬0<(m:Int):=by omega
   have hmd:decide (0<(m:Int))=false:=Z48 hmI;have HE:Bx (j=H0):=bx (by have:=HJ.out;omega);have hX:=Zs.out.2.2.2.2;rw[HE.out]at hX;have Ss:=bx (Rb.out.trans (Y9v hX.done));obtain⟨n9,hn9⟩:∃n9,hs.length=n9:=⟨_,rfl⟩;rw[hn9]at Zs;have Tj:=bx Zs.out.2.2.1;have Pm:Bx (MtX wr (Nw w wr) ⟨ac,nm,ds,true,st,lc,⟨A7,n,c7,cd⟩,⟨A2,n9,c2_,hs⟩,sq0⟩):=bx ⟨Zs.out.2.2.2.1.step (fun _ _=>rfl) (fun k hk=>⟨hk.1,hk.2.1⟩),SqX.of Zs.out.2.1 (fun k h1 h2=>⟨h1,h2⟩),SqX.nil,fun f hf=>by cases hf⟩;clear hX Zs Rb HJ HE hn9;go_wp2_with fail
   refine Y8x 2 64 Tj.out.kd (by decide) (by decide) ?_ ?_
   ·intro h w2 hc
    have HX:Bx (R=none):=bx (by rw[Ss.out];exact Y9u h);go_wp2;exact⟨rfl,Yh.out _ HX.out (Tj.out.ch.trans hc (fun _ _ e => .inl e))⟩
   intro K0 p6 hn w10 hc hk;have Sz:=bx (Ss.out.trans (Y9v hn));have Zk:Bx (K0≤64):=bx (Y7e hn);have Vg:=bx (Tj.out.step hc hk);have Q0:=bx (Pm.out.step (Nw.ch hc (fun k hk e=>by have e:k=gr:=e;have:=Vn.out;omega)) (Nw.up hc));clear hn hc hk Tj Pm Ss;go_wp2_with fail
   go_loopw [10,11] (fun sv kv wx=>∃(m:Nat) (seen:Bool) (fs:Sq FrE) (p:Nat),sv = .bool seen∧kv = .int .i64 (m:Int)∧m≤64∧Bx (MtX wx (Nw w wx) ⟨ac,nm,ds,true,st,lc,⟨A7,n,c7,cd⟩,⟨A2,n9,c2_,hs⟩,fs⟩∧Kcd w wx gm gk gr gv lo l p x b (mtA ac nm ds true st lc (.slice A7 n c7) (.slice A2 n9 c2_) fs.v)∧atsK x.p.pool K0 false [] l p6=atsK x.p.pool m seen (fs.l.map FrE.p) l p)) (fun _ kv _=>(intOf kv).toNat)
   case atStart=>exact⟨K0,false,sq0,p6,rfl,rfl,Zk.out,bx ⟨Q0.out,Vg.out,rfl⟩⟩
   case round=>
    obtain⟨m,seen,fs,p,rfl,rfl,hm4,Zs⟩:=hrel;have hsm:=Zs.out.2.1.lt;by_cases hm:0<m
    ·have hmI:0<(m:Int):=by omega
     have hmd:decide (0<(m:Int))=true:=Z47 hmI;obtain⟨m1,hm1⟩:∃m1,m=m1+1:=⟨m-1,by omega⟩;have Xt:=bx hm1;clear hm1
     have hstop:∀wq,atsK x.p.pool (m1+1) seen (fs.l.map FrE.p) l p=none→Ch wr wq (OneR gr)→CodP gm gr ac nm ds R w (.panicked brkC) wq:=fun wq h c=>by
      have hX:R=none:=by rw[Sz.out];exact Y9u (Zs.out.2.2.trans (by rw[Xt.out];exact h))
      exact Yh.out _ hX (Zs.out.2.1.ch.trans c (fun _ _ e => .inl e))
     have Zw:=bx hstop;clear hstop;have s1:wr.drew.cell? ⟨gk,1,none⟩=some (.pointer (some ⟨gv,0,none⟩)):=(Zs.out.2.1.kd.box.cell 1).trans rfl;have hlt:=Zs.out.2.1.kd.lt.1;go_wp2_with fail
     refine Y9x (S:=fun w'=>w'.cell? ⟨gk,1,none⟩=some (.pointer (some ⟨gv,0,none⟩))) (.tk 0 (.tk 1 (.tk 2 (.tk 3 (.tk 4 (.rn 5 (.rn 6 (.rn 7 .fin)))))))) (by kernel_rfl) (by kernel_rfl) (by kernel_rfl) (fun _ _ _ _ h=>h) s1 ?_
     iterate 5 (apply SeqW.take;(· rfl);(· (refine Or.inl ⟨?_,?_⟩;(· rfl);(· (intro w hSw;(try dsimp only at hSw);go_simp <;> with_reducible rfl))));simp only[Act.put,Z01,Z02,Z03,Z06,Z04,Z05])
     have hk1:Krd wr.drew gk gr gv lo l p false x b:=Zs.out.2.1.kd.below (below_drewN (Below.refl _ _) 1);refine SeqW.run rfl (fun K hK hP=>?_);go_wp2_with fail
     refine Y8x 2 65535 hk1 (by decide) (by decide) ?_ ?_
     ·intro h w2 hc
      go_wp2;refine hP.out _ _ _ ?_;exact⟨rfl,Zw.out _ (W5o h) (((Ch.refl wr).drewN 1).trans hc (fun _ _ e=>e))⟩
     intro i q2 hi w2 hc2 hk2;have Yr:Bx (Ch wr w2 (OneR gr)):=bx (((Ch.refl wr).drewN 1).trans hc2 (fun _ _ e=>e));have Zj:=bx hk2;have HI:=bx hi;clear hi hc2 hk2 hk1;go_wp2;refine hK.out _ _ ((Zj.out.box.cell 1).trans rfl) ?_;clear hK hP K;refine SeqW.run rfl (fun K hK hP=>?_);go_wp2_with fail
     refine Y9f (x:=x) (b:=b) i Zj.out.vw ?_ ?_
     ·intro h w3 hb
      go_wp2;refine hP.out _ _ _ ?_;exact⟨rfl,Zw.out _ (W5e HI.out h) (Yr.out.trans (Ch.of_below (S:=OneR gr) hb) (fun _ _ e=>e))⟩
     intro s hs9 w3 hb;have Yw:Bx (Ch wr w3 (OneR gr)):=bx (Yr.out.trans (Ch.of_below (S:=OneR gr) hb) (fun _ _ e=>e));have Zo:=bx (Zj.out.below hb);have HT:=bx hs9;clear hs9 hb Yr Zj;go_wp2;refine hK.out _ _ ((Zo.out.box.cell 1).trans rfl) ?_;clear hK hP K;refine SeqW.run rfl (fun K hK hP=>?_);go_wp2_with fail
     refine hK.out _ _ ((Zo.out.box.cell 1).trans rfl) ?_;clear hK hP K;refine SeqW.done ?_;clear s1 hlt hsm;have s2:w3.drew.cell? ⟨gk,0,none⟩=some (.pointer (some ⟨gr,0,none⟩)):=(Zo.out.box.cell 0).trans rfl;have hlt:=Zo.out.lt.1;go_wp2_with fail
     refine Y9x (S:=fun w'=>w'.cell? ⟨gk,0,none⟩=some (.pointer (some ⟨gr,0,none⟩))) (.tk 0 (.tk 1 (.tk 2 (.tk 3 (.tk 4 (.rn 5 (.rn 6 (.rn 7 .fin)))))))) (by kernel_rfl) (by kernel_rfl) (by kernel_rfl) (fun _ _ _ _ h=>h) s2 ?_
     iterate 5 (apply SeqW.take;(· rfl);(· (refine Or.inl ⟨?_,?_⟩;(· rfl);(· (intro w hSw;(try dsimp only at hSw);go_simp <;> with_reducible rfl))));simp only[Act.put,Z01,Z02,Z03,Z06,Z04,Z05])
     have hk1:Krd w3.drew gk gr gv lo l q2 false x b:=Zo.out.below (below_drewN (Below.refl _ _) 1);refine SeqW.run rfl (fun K hK hP=>?_);go_wp2_with fail
     refine Y8x 4 4294967296 hk1 (by decide) (by decide) ?_ ?_
     ·intro h w4 hc
      go_wp2;refine hP.out _ _ _ ?_;exact⟨rfl,Zw.out _ (W5f HI.out HT.out h) (Yw.out.trans (((Ch.refl w3).drewN 1).trans hc (fun _ _ e=>e)) (fun _ _ e=>e))⟩
     intro z q4 hz4 w4 hc4 hk4;have Yg:Bx (Ch wr w4 (OneR gr)):=bx (Yw.out.trans (((Ch.refl w3).drewN 1).trans hc4 (fun _ _ e=>e)) (fun _ _ e=>e));have Zk:=bx hk4;have HZ:=bx hz4;clear hz4 hc4 hk4 hk1 Yw Zo;go_wp2;refine hK.out _ _ ((Zk.out.box.cell 0).trans rfl) ?_;clear hK hP K;refine SeqW.run rfl (fun K hK hP=>?_);go_wp2_with fail
     refine Y1p z Zk.out ?_ ?_
     ·intro h A5 c5 w5 hc5 hk5
      have Xi:Bx (Ch wr w5 (OneR gr)):=bx (Yg.out.trans hc5 (fun _ _ e=>e));have Zm:=bx hk5;have HH:=bx h;clear h hc5 hk5 Yg Zk;go_wp2;refine hK.out _ _ ((Zm.out.box.cell 0).trans rfl) ?_;clear hK hP K;refine SeqW.run rfl (fun K hK hP=>?_);go_wp2_with fail
      refine hK.out _ _ ((Zm.out.box.cell 0).trans rfl) ?_;clear hK hP K;refine SeqW.done ?_;clear s2 hlt;have s3:w5.cell? ⟨gk,0,none⟩=some (.pointer (some ⟨gr,0,none⟩)):=(Zm.out.box.cell 0).trans rfl;have hlt:=Zm.out.lt.1;go_wp2_with fail
      refine(Y8d gr lo l _ _ w5 Zm.out.rd).mono ?_
      rintro e w6 ⟨rfl,hw⟩;obtain rfl:w5=w6:=hw;go_wp2_with fail
      refine Y9w _ (fun _=>?_) (fun e=>by cases e);go_wp2;exact⟨rfl,Zw.out _ (W4v HI.out HT.out HZ.out HH.out) Xi.out⟩
     intro d A5 c5 hd w5 hc5 hk5 hO5;have Xi:Bx (Ch wr w5 (OneR gr)):=bx (Yg.out.trans hc5 (fun _ _ e=>e));have Zm:=bx hk5;have HD:=bx hd;have Fu:=bx hO5
     have Bi:Bx (d.length=z∧(z:Int)≤140737488355328):=bx ⟨(Y3f hd).1,by
      obtain⟨_,_,_,_,_,_,_,q,_⟩:=hk5.rd
      have:=(Y3f hd).2.2
      omega⟩
     clear hd hc5 hk5 hO5 Yg Zk;go_wp2;refine hK.out _ _ ((Zm.out.box.cell 0).trans rfl) ?_;clear hK hP K;refine SeqW.run rfl (fun K hK hP=>?_);go_wp2_with fail
     refine hK.out _ _ ((Zm.out.box.cell 0).trans rfl) ?_;clear hK hP K;refine SeqW.done ?_;clear s2 hlt;have s3:w5.cell? ⟨gk,0,none⟩=some (.pointer (some ⟨gr,0,none⟩)):=(Zm.out.box.cell 0).trans rfl;have hlt:=Zm.out.lt.1;have Mf:Bx (atsK x.p.pool (m1+1) seen (fs.l.map FrE.p) l p=atsR x.p.pool m1 seen (fs.l.map FrE.p) s d l (q4+z)):=bx (W5h HI.out HT.out HZ.out HD.out);have Yf:=bx (Zs.out.2.1.step Xi.out Zm.out);have F2:=bx (Zs.out.1.step (Nw.ch Xi.out (fun k hk e=>by have e:k=gr:=e;have:=Vn.out;omega)) (Nw.up Xi.out));have F1:=bx (Zs.out.2.2);obtain⟨q5,hq5⟩:∃q5,q4+z=q5:=⟨_,rfl⟩;rw[hq5]at Zm Mf Yf;clear hq5 HI HT HZ HD Zs;go_wp2_with fail
     refine(Y8d gr lo l _ _ w5 Zm.out.rd).mono ?_
     rintro e w6 ⟨rfl,hw⟩;obtain rfl:w5=w6:=hw;go_wp2_with fail
     refine Y9w _ (fun e=>by cases e) (fun _=>?_);go_upto_region 24 with(fail)
     go_upto_if 123 with(fail)
     obtain⟨qb,hqb⟩:∃qb,(s==[83,116,97,99,107,77,97,112,84,97,98,108,101])=qb:=⟨_,rfl⟩;rw[hqb];have Tr:Bx (qb=false→s≠smtN):=bx (fun e=>by rw[e]at hqb;intro e2;rw[e2]at hqb;cases hqb);have Tq:Bx (qb=true→s=smtN):=bx (fun e=>by rw[e]at hqb;exact eq_of_beq hqb);clear hqb;cases qb with
     | false=>
      have U5:Bx (atsK x.p.pool K0 false [] l p6=atsK x.p.pool m1 seen (fs.l.map FrE.p) l q5):=bx (by rw[F1.out,Xt.out,Mf.out,W6y (Tr.out rfl)]);go_wp2_with fail
      go_roundw
      case rel=>exact⟨m1,seen,fs,q5,rfl,by have:=Xt.out;go_num,by have:=Xt.out;omega,bx ⟨F2.out,Yf.out,U5.out⟩⟩
      case measure=>have:=Xt.out;simp [intOf];omega
     | true=>
     have Pg:Bx (s=smtN):=bx (Tq.out rfl);clear Tr Tq;cases seen with
     | true=>
      go_wp2_with fail
      refine Y9w _ (fun _=>?_) (fun e=>by cases e);go_wp2;exact⟨rfl,Zw.out _ (by rw[Mf.out,Pg.out];exact X4i) Xi.out⟩
     | false=>
     go_wp2_with fail
     refine Y9w _ (fun e=>by cases e) (fun _=>?_);have s4:w5.cell? ⟨gk,1,none⟩=some (.pointer (some ⟨gv,0,none⟩)):=(Zm.out.box.cell 1).trans rfl;have hsm:=Yf.out.lt;go_wp2_with fail
     refine(Y2l A5 z c5 d gv x b w5 Zm.out.vw Bi.out.1 Bi.out.2 (by
      obtain⟨A',c',e1,hr,_⟩:=OwL.rd Fu.out;injection e1 with e1 _ _
      subst e1;exact hr)).mono ?_
     rintro e w6 ⟨gk2,gr2,rfl,hgr2,hk6,hb6⟩;have Zf:=bx hk6;have Ft:=bx hgr2;have Xx:=bx (Yf.out.below hb6);have Yl:=bx hb6;have G4:Bx (wr.heap.size≤w5.heap.size):=bx Xi.out.size;have Wk:Bx (Ch wr w6 (OneR gr)):=bx (Xi.out.trans (Ch.of_below (S:=OneR gr) hb6) (fun _ _ e=>e));have Bh:Bx (w.heap.size≤w5.heap.size):=bx Yf.out.ch.size;clear hk6 hgr2 hb6 Xi s3 s4 hlt hsm;go_wp2_with fail
     refine X6y Zf.out ?_ ?_
     ·intro h w7 hc
      go_wp2;exact⟨rfl,Zw.out _ (by rw[Mf.out,Pg.out];exact X0l h) (Wk.out.trans hc (fun k hk e=>by have e:k=gr2:=e;have h1:=Ft.out;have h2:=G4.out;omega))⟩
     intro L A7_ n7_ c7_ hL w7 hc7 hO7;have hs7:=Xx.out.chg (B:=w5.heap.size) hc7 (fun k e=>by have e:k=gr2:=e;have:=Ft.out;omega) (by have:=Vn.out;have:=Bh.out;omega);have hm7:∀k,Nw w w5 k→w7.heap[k]? = w5.heap[k]? := fun k hk=>(hc7.same k (Z07 hk.2 Yl.out.size) (fun e=>by have e:k=gr2:=e;have:=Ft.out;have:=hk.2;omega)).trans (Yl.out.block k hk.2);have hu7:∀k,Nw w w5 k→Nw w w7 k:=fun k hk=>⟨hk.1,Z07 hk.2 (Z08 Yl.out.size hc7.size)⟩;have hf7:MtX w7 (Nw w w7) ⟨ac,nm,ds,true,st,lc,⟨A7,n,c7,cd⟩,⟨A2,n9,c2_,hs⟩,⟨A7_,n7_,c7_,L⟩⟩:=by have h0:=F2.out.step hm7 hu7;have hz:w.heap.size≤w6.heap.size:=Z08 Bh.out Yl.out.size;exact⟨h0.code,h0.hs,SqX.of hO7.own (fun k h1 h2=>⟨by omega,h2⟩),fun f hf=>(hO7.sub f hf).step (fun _ _=>rfl) (fun k hk=>⟨Z08 hz hk.1,hk.2.1⟩)⟩
     have Wq:=bx hs7;have HM7:=bx hf7;have Bg:Bx (atsK x.p.pool K0 false [] l p6=atsK x.p.pool m1 true (L.map FrE.p) l q5):=bx (by rw[F1.out,Xt.out,Mf.out,Pg.out];exact W9s hL);clear hs7 hm7 hu7 hf7 hO7 hc7 hL;have hsm:=Wq.out.lt;have hfz:=Wq.out.frz 8;have hcl:w7.cell? ⟨gm,8,none⟩=some fs.v:=Wq.out.cell rfl;unfold Sq.v at hcl;go_wp2_with fail
     go_roundw
     case rel=>exact⟨m1,true,⟨A7_,n7_,c7_,L⟩,q5,rfl,by have:=Xt.out;go_num,by have:=Xt.out;omega,bx ⟨HM7.out.step (Nw.ch (w0:=w) (Ch.one (g:=gm) (i:=8)) (fun k hk e=>by have e:k=gm:=e;have:=Vn.out;omega)) (Nw.up (Ch.one (g:=gm) (i:=8))),Wq.out.set 8 _,Bg.out⟩⟩
     case measure=>have:=Xt.out;simp [intOf];omega
    ·have hmI:¬0<(m:Int):=by omega
     have hmd:decide (0<(m:Int))=false:=Z48 hmI;have Pn:Bx (R=bndK endK (fun _=>retK (⟨st,lc,cd,hs,fs.l.map FrE.p⟩:Cod)) l p):=bx (by have hm0:m=0:=(by omega);have h1:=Zs.out.2.2;rw[hm0]at h1;exact Sz.out.trans (Y9v h1));have Ym:=bx Zs.out.2.1;have Pm:=bx Zs.out.1;clear Zs Sz hm hsm;go_wp2_with fail
     refine X4p Ym.out.kd ?_ ?_
     ·intro h w8 hb8
      have Pp:Bx (R=none):=bx (by rw[Pn.out];exact Y9u h);go_wp2;exact⟨rfl,Yh.out _ Pp.out (Ym.out.ch.trans (Ch.of_below (S:=OneR gr) hb8) (fun _ _ e => .inl e))⟩
     ·intro h w8 hb8
      have Pp:Bx (R=some (⟨st,lc,cd,hs,fs.l.map FrE.p⟩,p)):=bx (by rw[Pn.out,Y9v h];rfl);go_wp2
      go_end0
      rw[Pp.out];have hs8:=Ym.out.below hb8;exact⟨⟨rfl,⟨ac,nm,ds,true,st,lc,⟨A7,n,c7,cd⟩,⟨A2,n9,c2_,hs⟩,fs⟩,rfl,Pm.out.step (Nw.ch (U:=fun _=>False) (Ch.of_below hb8) (fun _ _ e=>e)) (Nw.up (U:=fun _=>False) (Ch.of_below hb8)),hs8.bk⟩,hs8.ch⟩
end Go.Proofs.YtpmfiegfbmamiaaDoor
