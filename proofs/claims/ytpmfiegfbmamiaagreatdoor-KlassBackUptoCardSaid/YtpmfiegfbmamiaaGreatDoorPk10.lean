/- Contract of klass's reader: code. -/
import Derived.Test.YtpmfiegfbmamiaaGreatDoorPk7
namespace Go.Proofs.YtpmfiegfbmamiaaGreatDoor
set_option maxRecDepth 100000
set_option maxHeartbeats 8000000
open Go.RowKit
set_option linter.unusedSimpArgs false
theorem hnTy:ETy Tryz.prog 52 104 (.agg #[.int .i64 0,.int .i64 0,.int .i64 0,.string ⟨#[]⟩]) 4 40:=⟨Tryz.underlying52,info_parts (by kernel_rfl),rfl,by decide⟩
theorem Y5x:(Tryz.prog.info? 55).map (·.size)=some 9:=by kernel_rfl
structure Kcd (w0 wx:World) (gm gk gr gv lo:Nat) (l:List UInt8) (p:Nat) (x:ImE) (b:Bool) (cs:Array Value):Prop where
 bk:Bk wx gm 55 cs
 kd:Krd wx gk gr gv lo l p false x b
 ch:Ch w0 wx (fun k=>k=gr∨k=gm)
 od:gv<gm∧gm<lo
section
variable {w0 wx w':World} {gm gk gr gv lo:Nat} {l:List UInt8} {p p':Nat} {x:ImE} {b:Bool} {cs:Array Value}
theorem Kcd.set (h:Kcd w0 wx gm gk gr gv lo l p x b cs) (i:Nat) (u:Value):Kcd w0 (wx.setCell ⟨gm,i,none⟩ u) gm gk gr gv lo l p x b (cs.setIfInBounds i u):=
 ⟨h.bk.set i u,h.kd.mid Ch.one h.od.1 h.od.2,h.ch.trans Ch.one (fun _ _ e => .inr e),h.od⟩
theorem Kcd.step (h:Kcd w0 wx gm gk gr gv lo l p x b cs) (c:Ch wx w' (OneR gr)) (hk:Krd w' gk gr gv lo l p' false x b):Kcd w0 w' gm gk gr gv lo l p' x b cs:=
 ⟨h.bk.ch c (fun e=>by have e:gm=gr:=e;have:=h.od;have:=h.kd.low;omega),hk,h.ch.trans c (fun _ _ e => .inl e),h.od⟩
theorem Kcd.below (h:Kcd w0 wx gm gk gr gv lo l p x b cs) (c:Below wx.heap.size wx w'):Kcd w0 w' gm gk gr gv lo l p x b cs:=h.step (Ch.of_below c) (h.kd.below c)
theorem Kcd.chg {U:Nat→Prop} {B:Nat} (h:Kcd w0 wx gm gk gr gv lo l p x b cs) (c:Ch wx w' U) (hU:∀k,U k→B≤k) (hB:gr<B∧gk<B∧gm<B∧w0.heap.size≤B):Kcd w0 w' gm gk gr gv lo l p x b cs:=
 ⟨h.bk.ch c (fun e=>by have:=hU _ e;omega),h.kd.far c (fun k hk e=>by have:=hU k e;omega),h.ch.trans c (fun k hk e=>by have:=hU k e;omega),h.od⟩
theorem Kcd.frz (h:Kcd w0 wx gm gk gr gv lo l p x b cs) (i:Nat):wx.frozen? ⟨gm,i,none⟩=false:=h.bk.frz i
theorem Kcd.cell (h:Kcd w0 wx gm gk gr gv lo l p x b cs) {i:Nat} {u:Value} (hu:cs[i]? = some u):wx.cell? ⟨gm,i,none⟩=some u:=(h.bk.cell i).trans hu
theorem Kcd.lt (h:Kcd w0 wx gm gk gr gv lo l p x b cs):gm<wx.heap.size:=h.bk.lt
end
section
variable {pool:List Cst} {l:List UInt8} {n p p2 p3 p4 p5 f t a c:Nat} {s:List UInt8}
def hnR (pool:List Cst) (f t a c:Nat):Kr Hnd:=if c=0 then ifK (decide (f<t)) (retK ⟨f,t,a,[]⟩) else bndK (optK (plainK pool c)) fun s=>ifK (decide (f<t)) (retK ⟨f,t,a,s⟩)
theorem W4m (h:numK 2 n l p=none):hndK pool n l p=none:=Y9u h
theorem W3u (h:numK 2 n l p=some (f,p2)) (h2:numK 2 n l p2=none):hndK pool n l p=none:=(Y9w h).trans (Y9u h2)
theorem W4f (h:numK 2 n l p=some (f,p2)) (h2:numK 2 n l p2=some (t,p3)) (h3:numK 2 (n-1) l p3=none):hndK pool n l p=none:=(Y9w h).trans ((Y9w h2).trans (Y9u h3))
theorem W4y (h:numK 2 n l p=some (f,p2)) (h2:numK 2 n l p2=some (t,p3)) (h3:numK 2 (n-1) l p3=some (a,p4)) (h4:numK 2 65535 l p4=none):hndK pool n l p=none:=(Y9w h).trans ((Y9w h2).trans ((Y9w h3).trans (Y9u h4)))
theorem W4l (h:numK 2 n l p=some (f,p2)) (h2:numK 2 n l p2=some (t,p3)) (h3:numK 2 (n-1) l p3=some (a,p4)) (h4:numK 2 65535 l p4=some (c,p5)):hndK pool n l p=hnR pool f t a c l p5:=(Y9w h).trans ((Y9w h2).trans ((Y9w h3).trans (Y9w h4)))
def hnN (pool:List Cst) (c:Nat):Option (List UInt8):=if c=0 then some [] else plainK pool c
theorem W3q (h:hnN pool c=none):hnR pool f t a c l p=none:=by
 unfold hnN at h;unfold hnR
 split at h
 ·cases h
 ·rename_i hc
  rw[if_neg hc];exact Y9u (Y6e h)
theorem W6c (h:hnN pool c=some s):hnR pool f t a c l p=ifK (decide (f<t)) (retK ⟨f,t,a,s⟩) l p:=by
 unfold hnN at h;unfold hnR
 split at h
 ·rename_i hc
  injection h with h
  subst h;rw[if_pos hc]
 ·rename_i hc
  rw[if_neg hc];exact Y9w (Y7m h)
end
section
variable {pool:List Cst} {l d:List UInt8} {k n p p2 p3 p4 p5 i:Nat} {s:List UInt8} {seen:Bool} {fs:List Frm}
def atsR (pool:List Cst) (k:Nat) (seen:Bool) (fs:List Frm) (w d:List UInt8):Kr (List Frm):=if w=smtN then ifK (!seen) (bndK (optK (frmsK pool d)) fun fs'=>atsK pool k true fs') else atsK pool k seen fs
theorem W4s (h:numK 2 65535 l p=none):atsK pool (k+1) seen fs l p=none:=Y9u h
theorem W4o (h:numK 2 65535 l p=some (i,p2)) (h2:txtK pool i=none):atsK pool (k+1) seen fs l p=none:=(Y9w h).trans (Y9u (Y6e h2))
theorem W4w (h:numK 2 65535 l p=some (i,p2)) (h2:txtK pool i=some s) (h3:numK 4 4294967296 l p2=none):atsK pool (k+1) seen fs l p=none:=(Y9w h).trans ((Y9w (Y7m h2)).trans (Y9u h3))
theorem W3x (h:numK 2 65535 l p=some (i,p2)) (h2:txtK pool i=some s) (h3:numK 4 4294967296 l p2=some (n,p3)) (h4:bytK n l p3=none):atsK pool (k+1) seen fs l p=none:=(Y9w h).trans ((Y9w (Y7m h2)).trans ((Y9w h3).trans (Y9u h4)))
theorem W4k (h:numK 2 65535 l p=some (i,p2)) (h2:txtK pool i=some s) (h3:numK 4 4294967296 l p2=some (n,p3)) (h4:bytK n l p3=some (d,p4)):atsK pool (k+1) seen fs l p=atsR pool k seen fs s d l p4:=(Y9w h).trans ((Y9w (Y7m h2)).trans ((Y9w h3).trans (Y9w h4)))
theorem W5t (hs:s≠smtN):atsR pool k seen fs s d=atsK pool k seen fs:=by
 unfold atsR;rw[if_neg hs]
theorem X1r:atsR pool k true fs smtN d l p=none:=by
 unfold atsR;rw[if_pos rfl]
 rfl
theorem X0w (h:frmsK pool d=none):atsR pool k false fs smtN d l p=none:=by
 unfold atsR;rw[if_pos rfl];exact Y9u (Y6e h)
theorem X0a {fs':List Frm} (h:frmsK pool d=some fs'):atsR pool k false fs smtN d l p=atsK pool k true fs' l p:=by
 unfold atsR;rw[if_pos rfl];exact Y9w (Y7m h)
end
def codR (pool:List Cst) (least:Int):Kr Cod:=bndK (numK 2 64) fun st=>bndK (numK 2 64) fun lo=>bndK (numK 4 4096) fun n=>ifK (decide (least≤(lo:Int)∧0<n)) (bndK (bytK n) fun cd=>
 bndK (numK 2 64) fun h=>bndK (repK (hndK pool n) h) fun hs=>bndK (numK 2 64) fun k=>bndK (atsK pool k false []) fun fs=>bndK endK fun _=>retK (⟨st,lo,cd,hs,fs⟩:Cod))
def mtA (ac:Int) (nm ds:List UInt8) (th:Bool) (st lc:Int) (cd hv fv:Value):Array Value:=#[.int .i64 ac,strQ nm,strQ ds,.bool th,.int .i64 st,.int .i64 lc,cd,hv,fv]
def CodP (gm gr:Nat) (ac:Int) (nm ds:List UInt8) (o:Option (Cod×Nat)) (w:World) (e:Ending) (w':World):Prop:=
 (match o with
  | some (c,_)=>e = .returned (.tuple #[])∧∃y:MtE,y.p=⟨ac,nm,ds,true,c.stack,c.locals,c.code,c.handlers,c.frames⟩∧MtX w' (fun k=>w.heap.size≤k∧k<w'.heap.size) y∧Bk w' gm 55 (mtA ac nm ds true y.stack y.locals (slV y.code) y.hs.v y.fs.v)
  | none=>e = .panicked brkC)∧Ch w w' (fun k=>k=gr∨k=gm)
theorem X3w (least:Int) (ac:Int) (nm ds:List UInt8) (gm gk gr gv lo:Nat) (l:List UInt8) (x:ImE) (b:Bool) (w:World) (h:Krd w gk gr gv lo l 0 false x b) (hm:Bk w gm 55 (mtA ac nm ds false 0 0 (.slice none 0 0) (.slice none 0 0) (.slice none 0 0))) (hg:gv<gm∧gm<lo) :
  Calls Tryz.prog 88 #[.pointer (some ⟨gk,0,none⟩),.pointer (some ⟨gm,0,none⟩),.int .i64 least] w (CodP gm gr ac nm ds (codR x.p.pool least l 0) w):=by
 obtain⟨R,hR⟩:∃R,codR x.p.pool least l 0=R:=⟨_,rfl⟩;rw[hR];have HR:=bx hR;have hs0:Kcd w w gm gk gr gv lo l 0 x b (mtA ac nm ds false 0 0 (.slice none 0 0) (.slice none 0 0) (.slice none 0 0)):=⟨hm,h,Ch.refl _,hg⟩;have hgm:=hs0.lt;have hfz:=hs0.frz 3;have hcl:w.cell? ⟨gm,3,none⟩=some (.bool false):=hs0.cell rfl;have Wc:=bx hs0;have Vk:Bx (gr<w.heap.size∧gk<w.heap.size∧gm<w.heap.size):=bx ⟨h.lt.2.1,h.lt.1,hgm⟩;clear h hR hm hg hs0
 go_enter Tryz.func88,Tryz.ntmps88
 go_upto_region 1 with(fail)
 have Se:Bx (Kcd w (w.setCell ⟨gm,3,none⟩ (.bool true)) gm gk gr gv lo l 0 x b (mtA ac nm ds true 0 0 (.slice none 0 0) (.slice none 0 0) (.slice none 0 0))):=bx (Wc.out.set 3 (.bool true));generalize w.setCell ⟨gm,3,none⟩ (.bool true)=w1 at Se ⊢;clear hgm hfz hcl Wc;have hno:∀wq,R=none→Ch w wq (fun k=>k=gr∨k=gm)→CodP gm gr ac nm ds R w (.panicked brkC) wq:=fun wq h c=>by rw[h];exact⟨rfl,c⟩
 have Yi:=bx hno;clear hno;go_wp2_with fail
 refine Y9b 2 64 Se.out.kd (by decide) (by decide) ?_ ?_
 ·intro h w2 hc
  have HX:Bx (R=none):=bx (by rw[←HR.out];exact Y9u h);go_wp2;exact⟨rfl,Yi.out _ HX.out (Se.out.ch.trans hc (fun _ _ e => .inl e))⟩
 intro st p1 hn w2 hc hk;have Xh:=bx (HR.out.symm.trans (Y9w hn));have Wn:=bx (Se.out.step hc hk);clear hn hc hk Se HR;have hgm:=Wn.out.lt;have hfz:=Wn.out.frz 4;have hcl:w2.cell? ⟨gm,4,none⟩=some (.int .i64 0):=Wn.out.cell rfl;go_upto_region 2 with(fail)
 have Yg:Bx (Kcd w (w2.setCell ⟨gm,4,none⟩ (.int .i64 (st:Int))) gm gk gr gv lo l p1 x b (mtA ac nm ds true st 0 (.slice none 0 0) (.slice none 0 0) (.slice none 0 0))):=bx (Wn.out.set 4 _);generalize w2.setCell ⟨gm,4,none⟩ (.int .i64 (st:Int))=w3 at Yg ⊢;clear hgm hfz hcl Wn;go_wp2_with fail
 refine Y9b 2 64 Yg.out.kd (by decide) (by decide) ?_ ?_
 ·intro h w2 hc
  have HX:Bx (R=none):=bx (by rw[Xh.out];exact Y9u h);go_wp2;exact⟨rfl,Yi.out _ HX.out (Yg.out.ch.trans hc (fun _ _ e => .inl e))⟩
 intro lc p2 hn w4 hc hk;have Xd:=bx (Xh.out.trans (Y9w hn));have Yr:=bx (Yg.out.step hc hk);clear hn hc hk Yg Xh;have hgm:=Yr.out.lt;have hfz:=Yr.out.frz 5;have hcl:w4.cell? ⟨gm,5,none⟩=some (.int .i64 0):=Yr.out.cell rfl;go_upto_region 3 with(fail)
 have Yt:Bx (Kcd w (w4.setCell ⟨gm,5,none⟩ (.int .i64 (lc:Int))) gm gk gr gv lo l p2 x b (mtA ac nm ds true st lc (.slice none 0 0) (.slice none 0 0) (.slice none 0 0))):=bx (Yr.out.set 5 _);generalize w4.setCell ⟨gm,5,none⟩ (.int .i64 (lc:Int))=w5 at Yt ⊢;clear hgm hfz hcl Yr;go_wp2_with fail
 refine Y9b 4 4096 Yt.out.kd (by decide) (by decide) ?_ ?_
 ·intro h w2 hc
  have HX:Bx (R=none):=bx (by rw[Xd.out];exact Y9u h);go_wp2;exact⟨rfl,Yi.out _ HX.out (Yt.out.ch.trans hc (fun _ _ e => .inl e))⟩
 intro n p3 hn w6 hc hk;have Vq:=bx (Xd.out.trans (Y9w hn));have hn4:n≤4096:=Y7f hn;have Ys:=bx (Yt.out.step hc hk);clear hn hc hk Yt Xd;have hgm:=Ys.out.lt;have hcl:w6.cell? ⟨gm,5,none⟩=some (.int .i64 (lc:Int)):=Ys.out.cell rfl;go_upto_region 4 with(fail)
 obtain⟨q,hq⟩:∃q,decide (least≤(lc:Int)∧0<n)=q:=⟨_,rfl⟩;have HQ:=bx hq;clear hq;by_cases hq1:least≤(lc:Int)
 case neg=>
  have hq1d:decide (least≤(lc:Int))=false:=Z47 hq1;have HX:Bx (R=none):=bx (by rw[Vq.out,Z47 (by omega)];rfl);go_wp2_with fail
  refine Y9x _ (fun _=>?_) (fun e=>by cases e);go_wp2;exact⟨rfl,Yi.out _ HX.out Ys.out.ch⟩
 case pos=>
 have hq1d:decide (least≤(lc:Int))=true:=Z46 hq1;by_cases hq2:0<n
 case neg=>
  have hq2I:¬0<(n:Int):=(by omega);have hq2d:decide (0<(n:Int))=false:=Z47 hq2I;have HX:Bx (R=none):=bx (by rw[Vq.out,Z47 (by omega)];rfl);go_wp2_with fail
  refine Y9x _ (fun _=>?_) (fun e=>by cases e);go_wp2;exact⟨rfl,Yi.out _ HX.out Ys.out.ch⟩
 case pos=>
 have hq2I:0<(n:Int):=(by omega);have hq2d:decide (0<(n:Int))=true:=Z46 hq2I;have Su:Bx (R=(bndK (bytK n) fun cd=>bndK (numK 2 64) fun h=>bndK (repK (hndK x.p.pool n) h) fun hs=>bndK (numK 2 64) fun k=>bndK (atsK x.p.pool k false []) fun fs=>bndK endK fun _=>retK (⟨st,lc,cd,hs,fs⟩:Cod)) l p3):=bx (by rw[Vq.out,Z46 ⟨hq1,hq2⟩];rfl);clear Vq HQ;go_wp2_with fail
 refine Y9x _ (fun e=>by cases e) (fun _=>?_);have hrd:w6.cell? ⟨gk,0,none⟩=some (.pointer (some ⟨gr,0,none⟩)):=(Ys.out.kd.box.cell 0).trans rfl;have hgk:=Ys.out.kd.lt.1;go_wp2_with fail
 refine Y1c n Ys.out.kd ?_ ?_
 ·intro h A c w7 hc hk
  have HX:Bx (R=none):=bx (by rw[Su.out];exact Y9u h);have hbk:=Ys.out.bk.ch hc (fun e=>by have e:gm=gr:=e;have:=Ys.out.od;have:=Ys.out.kd.low;omega);have hfz:=hbk.frz 6;have hcl:w7.cell? ⟨gm,6,none⟩=some (.slice none 0 0):=(hbk.cell 6).trans rfl;have Xw:=bx (hk.mid (gm:=gm) (Ch.one (i:=6) (u := .slice A 0 c)) Ys.out.od.1 Ys.out.od.2);have Vi:Bx (Ch w (w7.setCell ⟨gm,6,none⟩ (.slice A 0 c)) (fun k=>k=gr∨k=gm)):=bx ((Ys.out.ch.trans hc (fun _ _ e => .inl e)).trans Ch.one (fun _ _ e => .inr e));clear hbk hc hk;go_wp2_with fail
  refine(X0c 2 64 gk gr gv lo l _ x b _ Xw.out).mono ?_
  rintro e w8 ⟨rfl,hc8⟩;go_wp2;exact⟨rfl,Yi.out _ HX.out (Vi.out.trans hc8 (fun _ _ e => .inl e))⟩
 intro cd A7 c7 hn w7 hc hk hO;have Vd:=bx (Su.out.trans (Y9w hn));have hs7:=Ys.out.step hc hk;have Wh:Bx (SlX w7 (Nw w w7) ⟨A7,n,c7,cd⟩):=bx (SlX.of hO (fun k h1 h2=>⟨Z09 Ys.out.ch.size h1,h2⟩));have Yd:=bx hs7;clear hn hc hk hO hs7 Su Ys hgm hcl hrd hgk;have hgm:=Yd.out.lt;have hfz:=Yd.out.frz 6;have hcl:w7.cell? ⟨gm,6,none⟩=some (.slice none 0 0):=Yd.out.cell rfl;go_upto_region 6 with(fail)
 have Tv:Bx (Kcd w (w7.setCell ⟨gm,6,none⟩ (.slice A7 n c7)) gm gk gr gv lo l (p3+n) x b (mtA ac nm ds true st lc (.slice A7 n c7) (.slice none 0 0) (.slice none 0 0))):=bx (Yd.out.set 6 _);have Fz:Bx (SlX (w7.setCell ⟨gm,6,none⟩ (.slice A7 n c7)) (Nw w (w7.setCell ⟨gm,6,none⟩ (.slice A7 n c7))) ⟨A7,n,c7,cd⟩):=bx (Wh.out.step (Nw.ch Ch.one (fun k hk e=>by have e:k=gm:=e;have:=Vk.out;omega)) (Nw.up (Ch.one (g:=gm) (i:=6))));generalize w7.setCell ⟨gm,6,none⟩ (.slice A7 n c7)=w8 at Tv Fz ⊢;obtain⟨p4,hp4⟩:∃p4,p3+n=p4:=⟨_,rfl⟩;rw[hp4]at Tv Vd;clear hgm hfz hcl Yd Wh hp4;go_wp2_with fail
 refine Y9b 2 64 Tv.out.kd (by decide) (by decide) ?_ ?_
 ·intro h w2 hc
  have HX:Bx (R=none):=bx (by rw[Vd.out];exact Y9u h);go_wp2;exact⟨rfl,Yi.out _ HX.out (Tv.out.ch.trans hc (fun _ _ e => .inl e))⟩
 intro H0 p5 hn w9 hc hk;have Ra:=bx (Vd.out.trans (Y9w hn));have C5:Bx (H0≤64):=bx (Y7f hn);have Ym:=bx (Tv.out.step hc hk);have Bh:Bx (SlX w9 (Nw w w9) ⟨A7,n,c7,cd⟩):=bx (Fz.out.step (Nw.ch hc (fun k hk e=>by have e:k=gr:=e;have:=Vk.out;omega)) (Nw.up hc));clear hn hc hk Tv Vd Fz;go_wp2_with fail
 go_loopw [7] (fun kv wx=>∃(m j:Nat) (hs:List Hnd) (hv:Value) (p:Nat),j+m=H0∧kv = .int .i64 (m:Int)∧Bx (hs.length=j∧OwS hnC 4 wx w.heap.size 104 hv hs∧Kcd w wx gm gk gr gv lo l p x b (mtA ac nm ds true st lc (.slice A7 n c7) hv (.slice none 0 0))∧SlX wx (Bff w.heap.size wx hv) ⟨A7,n,c7,cd⟩∧RepK (hndK x.p.pool n) l p5 H0 j hs p)) (fun kv _=>(intOf kv).toNat)
 case atStart=>exact⟨H0,0,[],_,p5,by omega,rfl,bx ⟨rfl,OwS.nil,Ym.out,Bh.out.step (fun _ _=>rfl) (fun k hk=>⟨hk.1,hk.2,by simp [Value.ownBlock]⟩),RepK.start _ _ _ _⟩⟩
 case round=>
  obtain⟨m,j,hs,hv,p,hj,rfl,Zs⟩:=hrel;obtain⟨A2,c2_,hv2,_,_⟩:=OwS.rd Zs.out.2.1;subst hv2;have HJ:=bx hj;have hm6:m≤64:=by have:=C5.out;omega
  clear hj Ym Bh;by_cases hm:0<m
  ·skip
   -- DEV{
   have hmI:0<(m:Int):=(by omega);have hmd:decide (0<(m:Int))=true:=Z46 hmI
   have hstop:∀wq,hndK x.p.pool n l p=none→Ch wr wq (OneR gr)→CodP gm gr ac nm ds R w (.panicked brkC) wq:=fun wq h c=>by
    have hX:R=none:=by rw[Ra.out];exact Y9u (Zs.out.2.2.2.2.stop (by have:=HJ.out;omega) h)
    exact Yi.out _ hX (Zs.out.2.2.1.ch.trans c (fun _ _ e => .inl e))
   have Zw:=bx hstop;clear hstop;go_wp2_with fail
   refine Y9b 2 n Zs.out.2.2.1.kd (by decide) (by omega) ?_ ?_
   ·intro h w2 hc
    go_wp2;exact⟨rfl,Zw.out _ (W4m h) hc⟩
   intro f q2 hf w2 hc2 hk2;have hst:=Kst.new (T:=104) #[.int .i64 (f:Int),.int .i64 0,.int .i64 0,.string ⟨#[]⟩] hk2 hc2;have HF:=bx hf;clear hf hc2 hk2;go_upto_region 10 with(fail)
   obtain⟨w3,hw3⟩:∃w3,w2.alloc (.cells #[.int .i64 (f:Int),.int .i64 0,.int .i64 0,.string ⟨#[]⟩] 104)=w3:=⟨_,rfl⟩;obtain⟨g,hg⟩:∃g,w2.heap.size=g:=⟨_,rfl⟩;rw[hw3,hg]at hst;rw[hw3,hg];have Yg:=bx hst;clear hst hw3 hg;go_wp2_with fail
   refine Y9b 2 n Yg.out.kd (by decide) (by omega) ?_ ?_
   ·intro h w4 hc
    go_wp2;exact⟨rfl,Zw.out _ (W3u HF.out h) (Yg.out.ch.trans hc (fun _ _ e=>e))⟩
   intro t q3 ht w4 hc4 hk4;have Yr:=bx (Yg.out.step hc4 hk4);have HT:=bx ht;clear ht hc4 hk4 Yg;have hg4:=Yr.out.lt;have hfz:=Yr.out.frz 1;have hcl:w4.cell? ⟨g,1,none⟩=some (.int .i64 0):=Yr.out.cell rfl;go_upto_region 11 with(fail)
   have Yt:Bx (Kst 104 wr (w4.setCell ⟨g,1,none⟩ (.int .i64 (t:Int))) g gk gr gv lo l q3 x b #[.int .i64 (f:Int),.int .i64 (t:Int),.int .i64 0,.string ⟨#[]⟩]):=bx (Yr.out.set 1 _);generalize w4.setCell ⟨g,1,none⟩ (.int .i64 (t:Int))=w5 at Yt ⊢;clear hg4 hfz hcl Yr;obtain⟨n1,hn1⟩:∃n1,n-1=n1:=⟨_,rfl⟩;have hn1I:(n:Int)-1=(n1:Int):=(by omega);have Wt:=bx hn1;clear hn1;go_wp2_with fail
   refine Y9b 2 n1 Yt.out.kd (by decide) (by omega) ?_ ?_
   ·intro h w4 hc
    go_wp2;exact⟨rfl,Zw.out _ (W4f HF.out HT.out (by rw[Wt.out];exact h)) (Yt.out.ch.trans hc (fun _ _ e=>e))⟩
   intro a q4 ha w6 hc6 hk6;have Ys:=bx (Yt.out.step hc6 hk6);have HA:Bx (numK 2 (n-1) l q3=some (a,q4)):=bx (by rw[Wt.out];exact ha);clear ha hc6 hk6 Yt hn1I Wt;have hg4:=Ys.out.lt;have hfz:=Ys.out.frz 2;have hcl:w6.cell? ⟨g,2,none⟩=some (.int .i64 0):=Ys.out.cell rfl;go_upto_region 12 with(fail)
   have Yd:Bx (Kst 104 wr (w6.setCell ⟨g,2,none⟩ (.int .i64 (a:Int))) g gk gr gv lo l q4 x b #[.int .i64 (f:Int),.int .i64 (t:Int),.int .i64 (a:Int),.string ⟨#[]⟩]):=bx (Ys.out.set 2 _);generalize w6.setCell ⟨g,2,none⟩ (.int .i64 (a:Int))=w7 at Yd ⊢;clear hg4 hfz hcl Ys;go_wp2_with fail
   refine Y9b 2 65535 Yd.out.kd (by decide) (by decide) ?_ ?_
   ·intro h w4 hc
    go_wp2;exact⟨rfl,Zw.out _ (W4y HF.out HT.out HA.out h) (Yd.out.ch.trans hc (fun _ _ e=>e))⟩
   intro c q5 hcq w8 hc8 hk8;have Tv:=bx (Yd.out.step hc8 hk8);have Bg:Bx (hndK x.p.pool n l p=hnR x.p.pool f t a c l q5):=bx (W4l HF.out HT.out HA.out hcq);clear hcq hc8 hk8 Yd HF HT HA;go_upto_region 13 with(fail)
   go_upto_if 71 with(fail)
   go_cut [77] from 71 to 78 (fun _ wx=>∃(nm:List UInt8),Bx (hnN x.p.pool c=some nm∧Kst 104 wr wx g gk gr gv lo l q5 x b #[.int .i64 (f:Int),.int .i64 (t:Int),.int .i64 (a:Int),strQ nm]))
   case first=>
    clear Zs Ra;by_cases hc0:c=0
    ·have hcI:((c:Int) != 0)=false:=by simp;omega
     have Sc:=bx hc0;clear hc0;go_wp2_with fail
     go_meet
     exact⟨[],bx ⟨by unfold hnN;rw[if_pos Sc.out],Tv.out⟩⟩
    ·have hcI:((c:Int) != 0)=true:=by simp;omega
     have hrd:w8.cell? ⟨gk,1,none⟩=some (.pointer (some ⟨gv,0,none⟩)):=(Tv.out.kd.box.cell 1).trans rfl;have hgk:=Tv.out.kd.lt.1;have hg8:=Tv.out.lt;go_wp2_with fail
     refine Y8n (x:=x) (b:=b) c Tv.out.kd.vw ?_ ?_
     ·intro h w9 hb
      go_wp2;exact⟨rfl,Zw.out _ (by rw[Bg.out];exact W3q (by unfold hnN;rw[if_neg hc0];exact h)) (Tv.out.ch.trans (Ch.of_below (S:=OneR gr) hb) (fun _ _ e=>e))⟩
     intro s hs9 w9 hb;have Ym:=bx (Tv.out.below hb);have Wm:Bx (hnN x.p.pool c=some s):=bx (by unfold hnN;rw[if_neg hc0];exact hs9);clear hs9 hb hrd hgk hg8 Tv;have hg9:=Ym.out.lt;have hfz:=Ym.out.frz 3;have hcl:w9.cell? ⟨g,3,none⟩=some (.string ⟨#[]⟩):=Ym.out.cell rfl;go_wp2_with fail
     go_meet
     exact⟨s,bx ⟨Wm.out,Ym.out.set 3 _⟩⟩
   case rest=>
    obtain⟨nm,hC⟩:=hcut;go_step;go_step;go_upto_region 15 with(fail)
    have Ym:=bx hC.out.2;have Bf:Bx (hndK x.p.pool n l p=ifK (decide (f<t)) (retK (⟨f,t,a,nm⟩:Hnd)) l q5):=bx (Bg.out.trans (W6c hC.out.1));have c0:wc.cell? ⟨g,0,none⟩=some (.int .i64 (f:Int)):=Ym.out.cell rfl;have c1:wc.cell? ⟨g,1,none⟩=some (.int .i64 (t:Int)):=Ym.out.cell rfl;have c2:wc.cell? ⟨g,2,none⟩=some (.int .i64 (a:Int)):=Ym.out.cell rfl;have c3:wc.cell? ⟨g,3,none⟩=some (strQ nm):=Ym.out.cell rfl;clear hC Tv Bg;by_cases hft:f<t
    case neg=>
     have hfI:¬(f:Int)<(t:Int):=(by omega);have hfd:decide ((f:Int)<(t:Int))=false:=Z47 hfI;go_wp2_with fail
     refine Y9x _ (fun _=>?_) (fun e=>by cases e);go_wp2;exact⟨rfl,Zw.out _ (by rw[Bf.out,Z47 hft];rfl) Ym.out.ch⟩
    case pos=>
    have hfI:(f:Int)<(t:Int):=(by omega);have hfd:decide ((f:Int)<(t:Int))=true:=Z46 hfI;go_wp2_with fail
    refine Y9x _ (fun e=>by cases e) (fun _=>?_);have Ve:=bx (Zs.out.2.2.1.step Ym.out.ch Ym.out.kd);have c7:wc.cell? ⟨gm,7,none⟩=some (.slice A2 hs.length c2_):=Ve.out.cell rfl;have f7:=Ve.out.frz 7;have HY:Bx (hndK x.p.pool n l p=some (⟨f,t,a,nm⟩,q5)):=bx (by rw[Bf.out,Z46 hft];rfl);clear Bf Zw;go_wp2_with fail
    have Fy:=bx (Ym.out.below (below_drewN (Below.refl _ _) 1));have c7d:wc.drew.cell? ⟨gm,7,none⟩=some (.slice A2 hs.length c2_):=c7;have hba:=Y9z (Below.refl wc.drew.heap.size wc.drew) (Z00 _) (.cells #[.int .i64 (f:Int),.int .i64 (t:Int),.int .i64 (a:Int),strQ nm] 104);have hs12:=Fy.out.below hba;have Vx:=bx hs12;have Mg:=bx ((Ve.out.below (below_drewN (Below.refl _ _) 1)).below hba);have Fx:Bx (Ch wr (wc.drew.alloc (.cells #[.int .i64 (f:Int),.int .i64 (t:Int),.int .i64 (a:Int),strQ nm] 104)) (OneR gr)):=bx hs12.ch;have Fw:=bx (Zs.out.2.1.one hs12.ch Vk.out.1);have Zc:=bx (RS.new (fC:=hnC) wc.drew ⟨f,t,a,nm⟩ #[.int .i64 (f:Int),.int .i64 (t:Int),.int .i64 (a:Int),strQ nm] rfl 104 (0,0));have Ld:Bx ((hs.length+[(⟨f,t,a,nm⟩:Hnd)].length)*40≤140737488355328):=bx (by simp only[Z13,Z20];have:=Zs.out.1;have:=HJ.out;have:=C5.out;omega);have hz:w.heap.size≤(wc.drew.alloc (.cells #[.int .i64 (f:Int),.int .i64 (t:Int),.int .i64 (a:Int),strQ nm] 104)).heap.size:=Mg.out.ch.size;have Cq:Bx (∀q,(Value.slice A2 hs.length c2_).ownBlock=some q→w.heap.size≤q∧q≠g):=bx (fun q e=>by have h1:=Zs.out.2.1.blk e;have h2:=Fy.out.lo;omega);have c7e:(wc.drew.alloc (.cells #[.int .i64 (f:Int),.int .i64 (t:Int),.int .i64 (a:Int),strQ nm] 104)).cell? ⟨gm,7,none⟩=some (.slice A2 hs.length c2_):=Mg.out.cell rfl;have Mf:=bx (Zs.out.2.2.2.1.step (w':=(wc.drew.alloc (.cells #[.int .i64 (f:Int),.int .i64 (t:Int),.int .i64 (a:Int),strQ nm] 104))) (Y:=Bff w.heap.size (wc.drew.alloc (.cells #[.int .i64 (f:Int),.int .i64 (t:Int),.int .i64 (a:Int),strQ nm] 104)) (.slice A2 hs.length c2_)) (fun k hk=>Fx.out.same k hk.2.1 (fun e=>by have e:k=gr:=e;have:=Vk.out;have:=hk.1;omega)) (fun k hk=>⟨hk.1,Z07 hk.2.1 Fx.out.size,hk.2.2⟩));have Be:=bx (Zs.out.2.2.2.2.next (by have:=HJ.out;omega) HY.out);have Kh:=bx Zs.out.1;have hgm:gm<wc.heap.size:=Ve.out.lt;have Pj:Bx (gm<g):=bx (by have h1:=Ym.out.lo;have h2:=Vk.out;have h3:=Zs.out.2.2.1.ch.size;omega);obtain⟨w12,hw12⟩:∃w12,wc.drew.alloc (.cells #[.int .i64 (f:Int),.int .i64 (t:Int),.int .i64 (a:Int),strQ nm] 104)=w12:=⟨_,rfl⟩;rw[hw12]at Vx Mg Fx Fw Zc hz c7e Mf;have Bd:Bx ((wc.alloc (.cells #[.int .i64 (f:Int),.int .i64 (t:Int),.int .i64 (a:Int),strQ nm] 104)).drew=w12):=bx hw12;clear hw12;clear hba hs12 Fy Zs Ra Ve Ym HY c7;refine Y9y (S:=fun w'=>w'.cell? ⟨g,0,none⟩=some (.int .i64 (f:Int))∧w'.cell? ⟨g,1,none⟩=some (.int .i64 (t:Int))∧w'.cell? ⟨g,2,none⟩=some (.int .i64 (a:Int))∧w'.cell? ⟨g,3,none⟩=some (strQ nm)) (.tk 0 (.tk 1 (.tk 2 (.tk 3 (.tk 5 (.alt 4 (.rn 6 (.rn 7 (.tk 8 (.tk 9 (.rn 10 .fin))))) (.rn 6 (.rn 4 (.rn 7 (.tk 8 (.tk 9 (.rn 10 .fin)))))))))))) (by kernel_rfl) (by kernel_rfl) (by kernel_rfl) (fun _ _ _ _ h=>h) ⟨c0,c1,c2,c3⟩ ?_
    iterate 5 (apply SeqW.take;(· rfl);(· (refine Or.inl ⟨?_,?_⟩;(· rfl);(· (intro w hSw;(try dsimp only at hSw);go_simp <;> with_reducible rfl))));simp only[Act.put,Z01,Z02,Z03,Z04,Z05,Z06])
    refine SeqW.both rfl (fun K hK hP=>?_) ?_
    ·go_wp2_with fail
     refine hK.out _ _ ⟨c0,c1,c2,c3⟩ ?_;clear hK hP K;refine SeqW.run rfl (fun K hK hP=>?_);go_wp2_with fail
     rw[Bd.out];refine hK.out _ _ ⟨Vx.out.cell rfl,Vx.out.cell rfl,Vx.out.cell rfl,Vx.out.cell rfl⟩ ?_;clear hK hP K;refine SeqW.run rfl (fun K hK hP=>?_);refine Y9v _ hnCels rfl (.tmp 89) (.tmp 91) rfl hnTy (by decide) w.heap.size (.slice A2 hs.length c2_) hs rfl Fw.out (wc.heap.size+1) (some ⟨wc.heap.size,0,none⟩) 1 1 [⟨f,t,a,nm⟩] rfl rfl Zc.out Ld.out hz ?_;intro V7 w13 hO13 hg13 hv13 hb13;refine wpList_nil ?_;have hcU:Ch w12 w13 (fun k=>(Value.slice A2 hs.length c2_).ownBlock=some k):=Ch.of_grown hg13 (fun _ e=>e);have h13:=Vx.out.chg hcU Cq.out ⟨Vk.out.1,Vk.out.2.1⟩;have Rt:=bx (Mg.out.chg hcU (fun k e=>(Cq.out k e).1) ⟨Vk.out.1,Vk.out.2.1,Vk.out.2.2,Z00 _⟩)
     have Me:=bx (Mf.out.step (w':=w13) (Y:=Bff w.heap.size w13 V7) (fun k hk=>hcU.same k hk.2.1 hk.2.2) (fun k hk=>⟨hk.1,Z07 hk.2.1 hcU.size,fun e=>by
      rcases hv13 with h1 | h1
      ·rw[h1]at e;exact hk.2.2 e
      ·rw[h1]at e;injection e with e;have:=hk.2.1;omega⟩))
     refine hK.out _ _ ⟨(h13.1.cell 0).trans rfl,(h13.1.cell 1).trans rfl,(h13.1.cell 2).trans rfl,(h13.1.cell 3).trans rfl⟩ ?_;clear hK hP K;obtain⟨A8,c8,e8,_,_⟩:=hO13.rd;obtain⟨n8,hn8⟩:∃n8,(hs++[(⟨f,t,a,nm⟩:Hnd)]).length=n8:=⟨_,rfl⟩;rw[hn8]at e8;subst e8;have Fv:=bx hO13;have Md:=bx h13.1;clear hn8 hO13 hg13 hv13 hb13 hcU h13;simp only[Act.put,Z01,Z02,Z03,Z04,Z05,Z06]
     iterate 2 (apply SeqW.take;(· rfl);(· (refine Or.inl ⟨?_,?_⟩;(· rfl);(· (intro w hSw;(try dsimp only at hSw);go_simp <;> with_reducible rfl))));simp only[Act.put,Z01,Z02,Z03,Z04,Z05,Z06])
     refine SeqW.run rfl (fun K hK hP=>?_);have hgm:=Rt.out.lt;have hfz:=Rt.out.frz 7;have hcl:w13.cell? ⟨gm,7,none⟩=some (.slice A2 hs.length c2_):=Rt.out.cell rfl;go_wp2_with fail
     have hb14:=Md.out.far (p:=⟨gm,7,none⟩) (fun e=>by have e:g=gm:=e;have:=Pj.out;omega) (.slice A8 n8 c8);refine hK.out _ _ ⟨(hb14.cell 0).trans rfl,(hb14.cell 1).trans rfl,(hb14.cell 2).trans rfl,(hb14.cell 3).trans rfl⟩ ?_;clear hK hP K hfz hcl hb14;refine SeqW.done ?_;go_wp2_with fail
     go_roundw
     case rel=>exact⟨m-1,j+1,hs++[⟨f,t,a,nm⟩],.slice A8 n8 c8,q5,by have:=HJ.out;omega,by go_num,bx ⟨by rw[Z08,Kh.out];rfl,Fv.out.far Vk.out.2.2,Rt.out.set 7 _,Me.out.step (fun k hk=>(Ch.one (g:=gm) (i:=7) (u := .slice A8 n8 c8)).same k hk.2.1 (fun e=>by have e:k=gm:=e;have:=Vk.out;have:=hk.1;omega)) (fun k hk=>⟨hk.1,Z07 hk.2.1 (Ch.one (g:=gm) (i:=7) (u := .slice A8 n8 c8)).size,hk.2.2⟩),Be.out⟩⟩
     case measure=>simp [intOf];omega
    ·refine SeqW.run rfl (fun K hK hP=>?_)
     go_wp2_with fail
     rw[Bd.out];refine hK.out _ _ ⟨Vx.out.cell rfl,Vx.out.cell rfl,Vx.out.cell rfl,Vx.out.cell rfl⟩ ?_;clear hK hP K;refine SeqW.run rfl (fun K hK hP=>?_);go_wp2_with fail
     refine hK.out _ _ ⟨Vx.out.cell rfl,Vx.out.cell rfl,Vx.out.cell rfl,Vx.out.cell rfl⟩ ?_;clear hK hP K;refine SeqW.run rfl (fun K hK hP=>?_);refine Y9v _ hnCels rfl (.tmp 89) (.tmp 91) rfl hnTy (by decide) w.heap.size (.slice A2 hs.length c2_) hs rfl Fw.out (wc.heap.size+1) (some ⟨wc.heap.size,0,none⟩) 1 1 [⟨f,t,a,nm⟩] rfl rfl Zc.out Ld.out hz ?_;intro V7 w13 hO13 hg13 hv13 hb13;refine wpList_nil ?_;have hcU:Ch w12 w13 (fun k=>(Value.slice A2 hs.length c2_).ownBlock=some k):=Ch.of_grown hg13 (fun _ e=>e);have h13:=Vx.out.chg hcU Cq.out ⟨Vk.out.1,Vk.out.2.1⟩;have Rt:=bx (Mg.out.chg hcU (fun k e=>(Cq.out k e).1) ⟨Vk.out.1,Vk.out.2.1,Vk.out.2.2,Z00 _⟩)
     have Me:=bx (Mf.out.step (w':=w13) (Y:=Bff w.heap.size w13 V7) (fun k hk=>hcU.same k hk.2.1 hk.2.2) (fun k hk=>⟨hk.1,Z07 hk.2.1 hcU.size,fun e=>by
      rcases hv13 with h1 | h1
      ·rw[h1]at e;exact hk.2.2 e
      ·rw[h1]at e;injection e with e;have:=hk.2.1;omega⟩))
     refine hK.out _ _ ⟨(h13.1.cell 0).trans rfl,(h13.1.cell 1).trans rfl,(h13.1.cell 2).trans rfl,(h13.1.cell 3).trans rfl⟩ ?_;clear hK hP K;obtain⟨A8,c8,e8,_,_⟩:=hO13.rd;obtain⟨n8,hn8⟩:∃n8,(hs++[(⟨f,t,a,nm⟩:Hnd)]).length=n8:=⟨_,rfl⟩;rw[hn8]at e8;subst e8;have Fv:=bx hO13;have Md:=bx h13.1;clear hn8 hO13 hg13 hv13 hb13 hcU h13;simp only[Act.put,Z01,Z02,Z03,Z04,Z05,Z06]
     iterate 2 (apply SeqW.take;(· rfl);(· (refine Or.inl ⟨?_,?_⟩;(· rfl);(· (intro w hSw;(try dsimp only at hSw);go_simp <;> with_reducible rfl))));simp only[Act.put,Z01,Z02,Z03,Z04,Z05,Z06])
     refine SeqW.run rfl (fun K hK hP=>?_);have hgm:=Rt.out.lt;have hfz:=Rt.out.frz 7;have hcl:w13.cell? ⟨gm,7,none⟩=some (.slice A2 hs.length c2_):=Rt.out.cell rfl;go_wp2_with fail
     have hb14:=Md.out.far (p:=⟨gm,7,none⟩) (fun e=>by have e:g=gm:=e;have:=Pj.out;omega) (.slice A8 n8 c8);refine hK.out _ _ ⟨(hb14.cell 0).trans rfl,(hb14.cell 1).trans rfl,(hb14.cell 2).trans rfl,(hb14.cell 3).trans rfl⟩ ?_;clear hK hP K hfz hcl hb14;refine SeqW.done ?_;go_wp2_with fail
     go_roundw
     case rel=>exact⟨m-1,j+1,hs++[⟨f,t,a,nm⟩],.slice A8 n8 c8,q5,by have:=HJ.out;omega,by go_num,bx ⟨by rw[Z08,Kh.out];rfl,Fv.out.far Vk.out.2.2,Rt.out.set 7 _,Me.out.step (fun k hk=>(Ch.one (g:=gm) (i:=7) (u := .slice A8 n8 c8)).same k hk.2.1 (fun e=>by have e:k=gm:=e;have:=Vk.out;have:=hk.1;omega)) (fun k hk=>⟨hk.1,Z07 hk.2.1 (Ch.one (g:=gm) (i:=7) (u := .slice A8 n8 c8)).size,hk.2.2⟩),Be.out⟩⟩
     case measure=>simp [intOf];omega
   -- DEV}
  ·have hmI:¬0<(m:Int):=by omega
   have hmd:decide (0<(m:Int))=false:=Z47 hmI;have HE:Bx (j=H0):=bx (by have:=HJ.out;omega);have hX:=Zs.out.2.2.2.2;rw[HE.out]at hX;have Ss:=bx (Ra.out.trans (Y9w hX.done));obtain⟨n9,hn9⟩:∃n9,hs.length=n9:=⟨_,rfl⟩;rw[hn9]at Zs;have Vy:=bx Zs.out.2.2.1;have Pm:Bx (MtX wr (Nw w wr) ⟨ac,nm,ds,true,st,lc,⟨A7,n,c7,cd⟩,⟨A2,n9,c2_,hs⟩,sq0⟩):=bx ⟨Zs.out.2.2.2.1.step (fun _ _=>rfl) (fun k hk=>⟨hk.1,hk.2.1⟩),SqX.of Zs.out.2.1 (fun k h1 h2=>⟨h1,h2⟩),SqX.nil,fun f hf=>by cases hf⟩;clear hX Zs Ra HJ HE hn9;go_wp2_with fail
   refine Y9b 2 64 Vy.out.kd (by decide) (by decide) ?_ ?_
   ·intro h w2 hc
    have HX:Bx (R=none):=bx (by rw[Ss.out];exact Y9u h);go_wp2;exact⟨rfl,Yi.out _ HX.out (Vy.out.ch.trans hc (fun _ _ e => .inl e))⟩
   intro K0 p6 hn w10 hc hk;have Tu:=bx (Ss.out.trans (Y9w hn));have Zq:Bx (K0≤64):=bx (Y7f hn);have Ve:=bx (Vy.out.step hc hk);have M7:=bx (Pm.out.step (Nw.ch hc (fun k hk e=>by have e:k=gr:=e;have:=Vk.out;omega)) (Nw.up hc));clear hn hc hk Vy Pm Ss;go_wp2_with fail
   go_loopw [10,11] (fun sv kv wx=>∃(m:Nat) (seen:Bool) (fs:Sq FrE) (p:Nat),sv = .bool seen∧kv = .int .i64 (m:Int)∧m≤64∧Bx (MtX wx (Nw w wx) ⟨ac,nm,ds,true,st,lc,⟨A7,n,c7,cd⟩,⟨A2,n9,c2_,hs⟩,fs⟩∧Kcd w wx gm gk gr gv lo l p x b (mtA ac nm ds true st lc (.slice A7 n c7) (.slice A2 n9 c2_) fs.v)∧atsK x.p.pool K0 false [] l p6=atsK x.p.pool m seen (fs.l.map FrE.p) l p)) (fun _ kv _=>(intOf kv).toNat)
   case atStart=>exact⟨K0,false,sq0,p6,rfl,rfl,Zq.out,bx ⟨M7.out,Ve.out,rfl⟩⟩
   case round=>
    obtain⟨m,seen,fs,p,rfl,rfl,hm4,Zs⟩:=hrel;have hsm:=Zs.out.2.1.lt;by_cases hm:0<m
    ·have hmI:0<(m:Int):=by omega
     have hmd:decide (0<(m:Int))=true:=Z46 hmI;obtain⟨m1,hm1⟩:∃m1,m=m1+1:=⟨m-1,by omega⟩;have Xq:=bx hm1;clear hm1
     have hstop:∀wq,atsK x.p.pool (m1+1) seen (fs.l.map FrE.p) l p=none→Ch wr wq (OneR gr)→CodP gm gr ac nm ds R w (.panicked brkC) wq:=fun wq h c=>by
      have hX:R=none:=by rw[Tu.out];exact Y9u (Zs.out.2.2.trans (by rw[Xq.out];exact h))
      exact Yi.out _ hX (Zs.out.2.1.ch.trans c (fun _ _ e => .inl e))
     have Zw:=bx hstop;clear hstop;have s1:wr.drew.cell? ⟨gk,1,none⟩=some (.pointer (some ⟨gv,0,none⟩)):=(Zs.out.2.1.kd.box.cell 1).trans rfl;have hlt:=Zs.out.2.1.kd.lt.1;go_wp2_with fail
     refine Y9y (S:=fun w'=>w'.cell? ⟨gk,1,none⟩=some (.pointer (some ⟨gv,0,none⟩))) (.tk 0 (.tk 1 (.tk 2 (.tk 3 (.tk 4 (.rn 5 (.rn 6 (.rn 7 .fin)))))))) (by kernel_rfl) (by kernel_rfl) (by kernel_rfl) (fun _ _ _ _ h=>h) s1 ?_
     iterate 5 (apply SeqW.take;(· rfl);(· (refine Or.inl ⟨?_,?_⟩;(· rfl);(· (intro w hSw;(try dsimp only at hSw);go_simp <;> with_reducible rfl))));simp only[Act.put,Z01,Z02,Z03,Z04,Z05,Z06])
     have hk1:Krd wr.drew gk gr gv lo l p false x b:=Zs.out.2.1.kd.below (below_drewN (Below.refl _ _) 1);refine SeqW.run rfl (fun K hK hP=>?_);go_wp2_with fail
     refine Y9b 2 65535 hk1 (by decide) (by decide) ?_ ?_
     ·intro h w2 hc
      go_wp2;refine hP.out _ _ _ ?_;exact⟨rfl,Zw.out _ (W4s h) (((Ch.refl wr).drewN 1).trans hc (fun _ _ e=>e))⟩
     intro i q2 hi w2 hc2 hk2;have Yu:Bx (Ch wr w2 (OneR gr)):=bx (((Ch.refl wr).drewN 1).trans hc2 (fun _ _ e=>e));have Zn:=bx hk2;have HI:=bx hi;clear hi hc2 hk2 hk1;go_wp2;refine hK.out _ _ ((Zn.out.box.cell 1).trans rfl) ?_;clear hK hP K;refine SeqW.run rfl (fun K hK hP=>?_);go_wp2_with fail
     refine Y9f (x:=x) (b:=b) i Zn.out.vw ?_ ?_
     ·intro h w3 hb
      go_wp2;refine hP.out _ _ _ ?_;exact⟨rfl,Zw.out _ (W4o HI.out h) (Yu.out.trans (Ch.of_below (S:=OneR gr) hb) (fun _ _ e=>e))⟩
     intro s hs9 w3 hb;have Yh:Bx (Ch wr w3 (OneR gr)):=bx (Yu.out.trans (Ch.of_below (S:=OneR gr) hb) (fun _ _ e=>e));have Zm:=bx (Zn.out.below hb);have HT:=bx hs9;clear hs9 hb Yu Zn;go_wp2;refine hK.out _ _ ((Zm.out.box.cell 1).trans rfl) ?_;clear hK hP K;refine SeqW.run rfl (fun K hK hP=>?_);go_wp2_with fail
     refine hK.out _ _ ((Zm.out.box.cell 1).trans rfl) ?_;clear hK hP K;refine SeqW.done ?_;clear s1 hlt hsm;have s2:w3.drew.cell? ⟨gk,0,none⟩=some (.pointer (some ⟨gr,0,none⟩)):=(Zm.out.box.cell 0).trans rfl;have hlt:=Zm.out.lt.1;go_wp2_with fail
     refine Y9y (S:=fun w'=>w'.cell? ⟨gk,0,none⟩=some (.pointer (some ⟨gr,0,none⟩))) (.tk 0 (.tk 1 (.tk 2 (.tk 3 (.tk 4 (.rn 5 (.rn 6 (.rn 7 .fin)))))))) (by kernel_rfl) (by kernel_rfl) (by kernel_rfl) (fun _ _ _ _ h=>h) s2 ?_
     iterate 5 (apply SeqW.take;(· rfl);(· (refine Or.inl ⟨?_,?_⟩;(· rfl);(· (intro w hSw;(try dsimp only at hSw);go_simp <;> with_reducible rfl))));simp only[Act.put,Z01,Z02,Z03,Z04,Z05,Z06])
     have hk1:Krd w3.drew gk gr gv lo l q2 false x b:=Zm.out.below (below_drewN (Below.refl _ _) 1);refine SeqW.run rfl (fun K hK hP=>?_);go_wp2_with fail
     refine Y9b 4 4294967296 hk1 (by decide) (by decide) ?_ ?_
     ·intro h w4 hc
      go_wp2;refine hP.out _ _ _ ?_;exact⟨rfl,Zw.out _ (W4w HI.out HT.out h) (Yh.out.trans (((Ch.refl w3).drewN 1).trans hc (fun _ _ e=>e)) (fun _ _ e=>e))⟩
     intro z q4 hz4 w4 hc4 hk4;have Yl:Bx (Ch wr w4 (OneR gr)):=bx (Yh.out.trans (((Ch.refl w3).drewN 1).trans hc4 (fun _ _ e=>e)) (fun _ _ e=>e));have Zq:=bx hk4;have HZ:=bx hz4;clear hz4 hc4 hk4 hk1 Yh Zm;go_wp2;refine hK.out _ _ ((Zq.out.box.cell 0).trans rfl) ?_;clear hK hP K;refine SeqW.run rfl (fun K hK hP=>?_);go_wp2_with fail
     refine Y1c z Zq.out ?_ ?_
     ·intro h A5 c5 w5 hc5 hk5
      have Xz:Bx (Ch wr w5 (OneR gr)):=bx (Yl.out.trans hc5 (fun _ _ e=>e));have Zj:=bx hk5;have HH:=bx h;clear h hc5 hk5 Yl Zq;go_wp2;refine hK.out _ _ ((Zj.out.box.cell 0).trans rfl) ?_;clear hK hP K;refine SeqW.run rfl (fun K hK hP=>?_);go_wp2_with fail
      refine hK.out _ _ ((Zj.out.box.cell 0).trans rfl) ?_;clear hK hP K;refine SeqW.done ?_;clear s2 hlt;have s3:w5.cell? ⟨gk,0,none⟩=some (.pointer (some ⟨gr,0,none⟩)):=(Zj.out.box.cell 0).trans rfl;have hlt:=Zj.out.lt.1;go_wp2_with fail
      refine(Y8c gr lo l _ _ w5 Zj.out.rd).mono ?_
      rintro e w6 ⟨rfl,hw⟩;obtain rfl:w5=w6:=hw;go_wp2_with fail
      refine Y9x _ (fun _=>?_) (fun e=>by cases e);go_wp2;exact⟨rfl,Zw.out _ (W3x HI.out HT.out HZ.out HH.out) Xz.out⟩
     intro d A5 c5 hd w5 hc5 hk5 hO5;have Xz:Bx (Ch wr w5 (OneR gr)):=bx (Yl.out.trans hc5 (fun _ _ e=>e));have Zj:=bx hk5;have HD:=bx hd;have S3:=bx hO5
     have C4:Bx (d.length=z∧(z:Int)≤140737488355328):=bx ⟨(Y3b hd).1,by
      obtain⟨_,_,_,_,_,_,_,q,_⟩:=hk5.rd
      have:=(Y3b hd).2.2
      omega⟩
     clear hd hc5 hk5 hO5 Yl Zq;go_wp2;refine hK.out _ _ ((Zj.out.box.cell 0).trans rfl) ?_;clear hK hP K;refine SeqW.run rfl (fun K hK hP=>?_);go_wp2_with fail
     refine hK.out _ _ ((Zj.out.box.cell 0).trans rfl) ?_;clear hK hP K;refine SeqW.done ?_;clear s2 hlt;have s3:w5.cell? ⟨gk,0,none⟩=some (.pointer (some ⟨gr,0,none⟩)):=(Zj.out.box.cell 0).trans rfl;have hlt:=Zj.out.lt.1;have Bc:Bx (atsK x.p.pool (m1+1) seen (fs.l.map FrE.p) l p=atsR x.p.pool m1 seen (fs.l.map FrE.p) s d l (q4+z)):=bx (W4k HI.out HT.out HZ.out HD.out);have Yt:=bx (Zs.out.2.1.step Xz.out Zj.out);have C3:=bx (Zs.out.1.step (Nw.ch Xz.out (fun k hk e=>by have e:k=gr:=e;have:=Vk.out;omega)) (Nw.up Xz.out));have C1:=bx (Zs.out.2.2);obtain⟨q5,hq5⟩:∃q5,q4+z=q5:=⟨_,rfl⟩;rw[hq5]at Zj Bc Yt;clear hq5 HI HT HZ HD Zs;go_wp2_with fail
     refine(Y8c gr lo l _ _ w5 Zj.out.rd).mono ?_
     rintro e w6 ⟨rfl,hw⟩;obtain rfl:w5=w6:=hw;go_wp2_with fail
     refine Y9x _ (fun e=>by cases e) (fun _=>?_);go_upto_region 24 with(fail)
     go_upto_if 123 with(fail)
     obtain⟨qb,hqb⟩:∃qb,(s==[83,116,97,99,107,77,97,112,84,97,98,108,101])=qb:=⟨_,rfl⟩;rw[hqb];have Tm:Bx (qb=false→s≠smtN):=bx (fun e=>by rw[e]at hqb;intro e2;rw[e2]at hqb;cases hqb);have Tk:Bx (qb=true→s=smtN):=bx (fun e=>by rw[e]at hqb;exact eq_of_beq hqb);clear hqb;cases qb with
     | false=>
      have S2:Bx (atsK x.p.pool K0 false [] l p6=atsK x.p.pool m1 seen (fs.l.map FrE.p) l q5):=bx (by rw[C1.out,Xq.out,Bc.out,W5t (Tm.out rfl)]);go_wp2_with fail
      go_roundw
      case rel=>exact⟨m1,seen,fs,q5,rfl,by have:=Xq.out;go_num,by have:=Xq.out;omega,bx ⟨C3.out,Yt.out,S2.out⟩⟩
      case measure=>have:=Xq.out;simp [intOf];omega
     | true=>
     have Qz:Bx (s=smtN):=bx (Tk.out rfl);clear Tm Tk;cases seen with
     | true=>
      go_wp2_with fail
      refine Y9x _ (fun _=>?_) (fun e=>by cases e);go_wp2;exact⟨rfl,Zw.out _ (by rw[Bc.out,Qz.out];exact X1r) Xz.out⟩
     | false=>
     go_wp2_with fail
     refine Y9x _ (fun e=>by cases e) (fun _=>?_);have s4:w5.cell? ⟨gk,1,none⟩=some (.pointer (some ⟨gv,0,none⟩)):=(Zj.out.box.cell 1).trans rfl;have hsm:=Yt.out.lt;go_wp2_with fail
     refine(Y1v A5 z c5 d gv x b w5 Zj.out.vw C4.out.1 C4.out.2 (by
      obtain⟨A',c',e1,hr,_⟩:=OwL.rd S3.out;injection e1 with e1 _ _
      subst e1;exact hr)).mono ?_
     rintro e w6 ⟨gk2,gr2,rfl,hgr2,hk6,hb6⟩;have Zf:=bx hk6;have Fu:=bx hgr2;have Ys:=bx (Yt.out.below hb6);have Yj:=bx hb6;have Cw:Bx (wr.heap.size≤w5.heap.size):=bx Xz.out.size;have Xt:Bx (Ch wr w6 (OneR gr)):=bx (Xz.out.trans (Ch.of_below (S:=OneR gr) hb6) (fun _ _ e=>e));have Bb:Bx (w.heap.size≤w5.heap.size):=bx Yt.out.ch.size;clear hk6 hgr2 hb6 Xz s3 s4 hlt hsm;go_wp2_with fail
     refine X6v Zf.out ?_ ?_
     ·intro h w7 hc
      go_wp2;exact⟨rfl,Zw.out _ (by rw[Bc.out,Qz.out];exact X0w h) (Xt.out.trans hc (fun k hk e=>by have e:k=gr2:=e;have h1:=Fu.out;have h2:=Cw.out;omega))⟩
     intro L A7_ n7_ c7_ hL w7 hc7 hO7;have hs7:=Ys.out.chg (B:=w5.heap.size) hc7 (fun k e=>by have e:k=gr2:=e;have:=Fu.out;omega) (by have:=Vk.out;have:=Bb.out;omega);have hm7:∀k,Nw w w5 k→w7.heap[k]? = w5.heap[k]? := fun k hk=>(hc7.same k (Z07 hk.2 Yj.out.size) (fun e=>by have e:k=gr2:=e;have:=Fu.out;have:=hk.2;omega)).trans (Yj.out.block k hk.2);have hu7:∀k,Nw w w5 k→Nw w w7 k:=fun k hk=>⟨hk.1,Z07 hk.2 (Z09 Yj.out.size hc7.size)⟩;have hf7:MtX w7 (Nw w w7) ⟨ac,nm,ds,true,st,lc,⟨A7,n,c7,cd⟩,⟨A2,n9,c2_,hs⟩,⟨A7_,n7_,c7_,L⟩⟩:=by have h0:=C3.out.step hm7 hu7;have hz:w.heap.size≤w6.heap.size:=Z09 Bb.out Yj.out.size;exact⟨h0.code,h0.hs,SqX.of hO7.own (fun k h1 h2=>⟨by omega,h2⟩),fun f hf=>(hO7.sub f hf).step (fun _ _=>rfl) (fun k hk=>⟨Z09 hz hk.1,hk.2.1⟩)⟩
     have Yd:=bx hs7;have HM7:=bx hf7;have Ba:Bx (atsK x.p.pool K0 false [] l p6=atsK x.p.pool m1 true (L.map FrE.p) l q5):=bx (by rw[C1.out,Xq.out,Bc.out,Qz.out];exact X0a hL);clear hs7 hm7 hu7 hf7 hO7 hc7 hL;have hsm:=Yd.out.lt;have hfz:=Yd.out.frz 8;have hcl:w7.cell? ⟨gm,8,none⟩=some fs.v:=Yd.out.cell rfl;unfold Sq.v at hcl;go_wp2_with fail
     go_roundw
     case rel=>exact⟨m1,true,⟨A7_,n7_,c7_,L⟩,q5,rfl,by have:=Xq.out;go_num,by have:=Xq.out;omega,bx ⟨HM7.out.step (Nw.ch (w0:=w) (Ch.one (g:=gm) (i:=8)) (fun k hk e=>by have e:k=gm:=e;have:=Vk.out;omega)) (Nw.up (Ch.one (g:=gm) (i:=8))),Yd.out.set 8 _,Ba.out⟩⟩
     case measure=>have:=Xq.out;simp [intOf];omega
    ·have hmI:¬0<(m:Int):=by omega
     have hmd:decide (0<(m:Int))=false:=Z47 hmI;have Pn:Bx (R=bndK endK (fun _=>retK (⟨st,lc,cd,hs,fs.l.map FrE.p⟩:Cod)) l p):=bx (by have hm0:m=0:=(by omega);have h1:=Zs.out.2.2;rw[hm0]at h1;exact Tu.out.trans (Y9w h1));have Ym:=bx Zs.out.2.1;have Pm:=bx Zs.out.1;clear Zs Tu hm hsm;go_wp2_with fail
     refine X2r Ym.out.kd ?_ ?_
     ·intro h w8 hb8
      have Po:Bx (R=none):=bx (by rw[Pn.out];exact Y9u h);go_wp2;exact⟨rfl,Yi.out _ Po.out (Ym.out.ch.trans (Ch.of_below (S:=OneR gr) hb8) (fun _ _ e => .inl e))⟩
     ·intro h w8 hb8
      have Po:Bx (R=some (⟨st,lc,cd,hs,fs.l.map FrE.p⟩,p)):=bx (by rw[Pn.out,Y9w h];rfl);go_wp2
      go_end0
      rw[Po.out];have hs8:=Ym.out.below hb8;exact⟨⟨rfl,⟨ac,nm,ds,true,st,lc,⟨A7,n,c7,cd⟩,⟨A2,n9,c2_,hs⟩,fs⟩,rfl,Pm.out.step (Nw.ch (U:=fun _=>False) (Ch.of_below hb8) (fun _ _ e=>e)) (Nw.up (U:=fun _=>False) (Ch.of_below hb8)),hs8.bk⟩,hs8.ch⟩
end Go.Proofs.YtpmfiegfbmamiaaGreatDoor
