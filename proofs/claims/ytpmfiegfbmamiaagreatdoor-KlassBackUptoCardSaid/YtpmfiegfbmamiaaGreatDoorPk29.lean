/- Contract: image.Write: the head. -/
import Derived.Test.YtpmfiegfbmamiaaGreatDoorPk12
import Derived.Test.YtpmfiegfbmamiaaGreatDoorPk6
import Derived.Test.YtpmfiegfbmamiaaGreatDoorPk3
namespace Go.Proofs.YtpmfiegfbmamiaaGreatDoor
set_option maxRecDepth 100000
set_option maxHeartbeats 16000000
open Go.RowKit
theorem W4x {w0 w w5:World} {B g:Nat} {v v5:Value} {l more:List UInt8} (h:SkR w0 w B g v l) (ho:OwB w5 B 5 v5 (l++more)) (hc:Ch w.drew w5 (Fow v)) (hn:OwnN w.drew v v5) :
  SkR w0 (w5.setCell ⟨g,0,none⟩ v5) B g v5 (l++more)∧SkC g w v (w5.setCell ⟨g,0,none⟩ v5) v5:=by
 have hgv:v5.ownBlock≠some g:=X5l h.vg h.rws.1.lt hn;have hK5:Bk w5 g 95 #[v]:=(h.rws.1.drewN 1).ch hc (fun e=>h.vg e);have hR:Rws 95 5 (w5.setCell ⟨g,0,none⟩ v5) B g v5 (l++more):=⟨by simpa using hK5.set 0 v5,OwL.own_same ho fun k hk=>Below.heap_setCell w5 ⟨g,0,none⟩ v5 k (fun e=>hgv (by rw[hk];exact congrArg some e))⟩;have hd:Ch w w.drew (Fpt g v):=⟨rfl,rfl,rfl,Z00 _,fun _ _ _=>rfl⟩;have c2:Ch w.drew w5 (Fpt g v):=⟨hc.os,hc.tape,hc.output,hc.size,fun k hk hf=>hc.same k hk (fun e=>hf (.inr e))⟩;have c3:Ch w (w5.setCell ⟨g,0,none⟩ v5) (Fpt g v):=(hd.trans c2 (fun _ _ h=>h)).setCell (fun _ => .inl rfl) v5;exact⟨h.ch hR c3 hn,c3,hn⟩
def ImgWPost (R:Rz (List UInt8)) (w:World) (e:Ending) (w':World):Prop:=
 Below w.heap.size w w'∧match R with
  | .ok o=>∃v,e = .returned (.tuple #[v,.int .i64 0])∧OwB w' w.heap.size 5 v o∧o.length≤32768
  | .err k=>e = .returned (.tuple #[.slice none 0 0,.int .i64 k])∧(k=24∨k=8)
def headB (m:Img):List UInt8:=beB 4 3405691582++(beB 2 m.minor++(beB 2 m.major++beB 2 m.pool.length))
def tailB (m:Img):List UInt8:=beB 2 m.access++(beB 2 m.this++(beB 2 m.super++(ifB m.ifaces++(memsB m.fields++(memsB m.methods++attsB m.attrs)))))
theorem X2m (m:Img):imgB m=headB m++(m.pool.flatMap cstB++tailB m):=by unfold imgB headB tailB;simp only[Z25]
theorem X2e {pool:List Cst} {i:Nat} {c:Cst} (h:rightP pool i c=true):c.tag=0∨c.tag=1∨c.tag=3∨c.tag=5∨(c.tag=7∨c.tag=8)∨(c.tag=9∨c.tag=10∨c.tag=11∨c.tag=12):=by
 by_cases h0:c.tag=0
 ·exact .inl h0
 by_cases h1:c.tag=1
 ·exact .inr (.inl h1)
 by_cases h3:c.tag=3
 ·exact .inr (.inr (.inl h3))
 by_cases h5:c.tag=5
 ·exact .inr (.inr (.inr (.inl h5)))
 by_cases h7:c.tag=7∨c.tag=8
 ·exact .inr (.inr (.inr (.inr (.inl h7))))
 by_cases h9:c.tag=9∨c.tag=10∨c.tag=11
 ·exact .inr (.inr (.inr (.inr (.inr (by omega)))))
 by_cases h12:c.tag=12
 ·exact .inr (.inr (.inr (.inr (.inr (by omega)))))
 unfold rightP at h;rw[if_neg h0,if_neg h1,if_neg h3,if_neg h5,if_neg h7,if_neg h9,if_neg h12]at h;simp at h
theorem Y2o {m:Img} (h:holdsP m=true):rightsP m.pool=true:=by
 unfold holdsP at h;simp only[Z19]at h;exact h.1.1.1.1.1.1.2
theorem W8h {c:Cst} (h:c.tag=0):cstB c=[]:=by unfold cstB;rw[if_pos h]
theorem W4n {c:Cst} (h:c.tag=1):cstB c=beB 1 c.tag++(beB 2 c.text.length++c.text):=by unfold cstB;rw[if_neg (by omega),if_pos h]
theorem W7s {c:Cst} (h:c.tag=3):cstB c=beB 1 c.tag++beB 4 c.num:=by unfold cstB;rw[if_neg (by omega),if_neg (by omega),if_pos h]
theorem W7w {c:Cst} (h:c.tag=5):cstB c=beB 1 c.tag++beB 8 c.num:=by unfold cstB;rw[if_neg (by omega),if_neg (by omega),if_neg (by omega),if_pos h]
theorem X8s {c:Cst} (h:c.tag=7∨c.tag=8):cstB c=beB 1 c.tag++beB 2 c.a:=by unfold cstB;rw[if_neg (by omega),if_neg (by omega),if_neg (by omega),if_neg (by omega),if_pos h]
theorem Y5w {c:Cst} (h:c.tag=9∨c.tag=10∨c.tag=11∨c.tag=12):cstB c=beB 1 c.tag++(beB 2 c.a++beB 2 c.b):=by unfold cstB;rw[if_neg (by omega),if_neg (by omega),if_neg (by omega),if_neg (by omega),if_neg (by omega)]
theorem X0e {m:Img} {j:Nat} (h:32768<(headB m++(m.pool.take j).flatMap cstB).length):32768<(imgB m).length:=by
 rw[X2m,Z08,Z08];have e:(m.pool.flatMap cstB).length=((m.pool.take j).flatMap cstB).length+((m.pool.drop j).flatMap cstB).length:=(by rw[←Z08,←Z29,List.take_append_drop]);rw[Z08]at h;omega
theorem atts_lim {L:List Cst} {M:List AtE} (h:attsOk L (M.map AtE.p)=true):M.length≤64∧∀y∈M,y.s.l.length≤32768:=by
 rw[Y3a,Z19,Z32]at h;refine⟨Z48 h.2,fun y hy=>?_⟩
 have:=h.1 y hy
 unfold okE attOk at this;rw[Z19]at this;exact Z48 this.2
theorem mems_lim {L:List Cst} {M:List MmE} (h:memsOk L (M.map MmE.p)=true):M.length≤64∧∀z∈M,MmLim z:=by
 rw[Y3c,Z19,Z32]at h;refine⟨Z48 h.2,fun z hz=>?_⟩
 have:=h.1 z hz
 rw[W4i,Z19]at this;exact atts_lim this.2
theorem X2t {x:ImE} (h:holdsP x.p=true):x.ifs.length≤64∧(x.fs.length≤64∧∀z∈x.fs,MmLim z)∧(x.ms.length≤64∧∀z∈x.ms,MmLim z)∧(x.as_.length≤64∧∀y∈x.as_,y.s.l.length≤32768):=by
 unfold holdsP at h;simp only[Z19]at h;obtain⟨⟨⟨⟨⟨⟨⟨h1,_⟩,_⟩,_⟩,_⟩,h6⟩,h7⟩,h8⟩:=h;refine⟨?_,mems_lim h6,mems_lim h7,atts_lim h8⟩;unfold headOk at h1;rw[Z19]at h1;exact Z48 h1.2
theorem Y2a (M:List MmE) (h64:M.length≤64) (hd:∀x∈M,MmLim x):(memsB (M.map MmE.p)).length≤134242820:=by
 unfold memsB;rw[Z08,beB_len]
 have:=X8j M hd
 omega
theorem Y2q {R:Rz (List UInt8)} {w w':World} {k:Int} (h:R = .err k) (hb:Below w.heap.size w w') (hk:k=24∨k=8):ImgWPost R w (.returned (.tuple #[.slice none 0 0,.int .i64 k])) w':=by
 subst h;exact⟨hb,rfl,hk⟩
theorem W6k {R:Rz (List UInt8)} {w w':World} {v:Value} {l:List UInt8} (h:R = .ok l) (hb:Below w.heap.size w w') (ho:OwB w' w.heap.size 5 v l) (hl:l.length≤32768):ImgWPost R w (.returned (.tuple #[v,.int .i64 0])) w':=by
 subst h;exact⟨hb,v,rfl,ho,hl⟩
theorem X4h (x:ImE) (w:World) (hx:RIm w w.heap.size x) (hT:∀c∈x.pool,(-9223372036854775808≤c.tag∧c.tag≤9223372036854775807)∧c.text.length≤2000000) :
  Calls Tryz.prog 12 #[.agg (imC x)] w (ImgWPost (writeP x.p) w):=by
 have HX:=bx hx;have HT:=bx hT;obtain⟨W,hW⟩:∃W,writeP x.p=W:=⟨_,rfl⟩;obtain⟨cs,hcs⟩:∃cs,cs=imC x:=⟨_,rfl⟩;rw[hW,←hcs];have HW:=bx hW;have Zb:=bx hcs;obtain⟨B,hB⟩:∃B,w.heap.size=B:=⟨_,rfl⟩;have Yz:=bx (Bk.newAt w 33 cs hB);have Tg:=bx (Y9z (Below.refl w.heap.size w) (Z00 _) (.cells cs 33));have HB:=bx hB;obtain⟨q,hq⟩:∃q,holdsP x.p=q:=⟨_,rfl⟩;have HQ:=bx hq;have hpb:(x.pn:Int)≤9223372036854775807:=by have:=hx.pl;omega
 clear hx hT hW hcs hB hq
 go_enter Tryz.func12,Tryz.ntmps12
 go_upto_region 1 with(fail)
 rw[HB.out];generalize w.alloc (.cells cs 33)=wb at Yz Tg ⊢;have Vn:=bx (Y4x x wb (HX.out.up Tg.out) HT.out);rw[←Zb.out,HQ.out]at Vn;cases q with
 | false=>
  have HN:Bx (W = .err 24):=bx (by rw[←HW.out];unfold writeP;rw[if_pos HQ.out]);go_wp2_with (first | (refine wpList_load_row rfl 33 (.tmp 1) rfl B rfl _ cs _ _ Yz.out Tryz.underlying33 rfl (by rw[Zb.out,Y7r];exact Y9q) ?_) | (go_at_call 26;refine Vn.out.mono ?_;rintro e w1 ⟨rfl,hb1⟩;have Zi:=bx hb1;clear hb1))
  go_ret2;exact Y2q HN.out (Tg.out.trans (Zi.out.mono Tg.out.size)) (.inl rfl)
 | true=>
  have HN:Bx (W=if 32768<(imgB x.p).length then .err 8 else .ok (imgB x.p)):=bx (by rw[←HW.out];unfold writeP;rw[if_neg (by rw[HQ.out];decide)]);go_upto_region 4 with(first | (refine wpList_load_row rfl 33 (.tmp 1) rfl B rfl _ cs _ _ Yz.out Tryz.underlying33 rfl (by rw[Zb.out,Y7r];exact Y9q) ?_) | (go_at_call 26;refine Vn.out.mono ?_;rintro e w1 ⟨rfl,hb1⟩;have Zi:=bx hb1;clear hb1))
  obtain⟨g,hg⟩:∃g,w1.heap.size=g:=⟨_,rfl⟩;have U8:=bx (Tg.out.trans (Zi.out.mono Tg.out.size));have Dd:=bx (Yz.out.below Zi.out Yz.out.lt);have hgB:B<g:=by have:=Dd.out.lt;omega
  have Dc:Bx (B≠g):=bx (by omega);have Kz:=bx (Bk.newAt w1 95 #[.slice none 0 0] hg);have Qs:=bx (Dd.out.alloc (.cells #[.slice none 0 0] 95));have Rp:=bx (Y9z U8.out (Z00 _) (.cells #[.slice none 0 0] 95));have S9:Bx (w.heap.size≤g):=bx (by rw[←hg];exact U8.out.size);rw[hg];generalize w1.alloc (.cells #[.slice none 0 0] 95)=w2 at Kz Qs Rp ⊢;obtain⟨v2,hv2⟩:∃v,v=Value.slice none 0 0:=⟨_,rfl⟩;obtain⟨l2,hl2⟩:∃l:List UInt8,l=[]:=⟨_,rfl⟩;have hn2:l2.length≤0:=by rw[hl2];exact Z00 _
  have Vs:=bx hv2;have Xu:=bx hl2;have Wn:Bx (SkR w w2 w.heap.size g v2 l2):=bx ⟨⟨by rw[hv2];exact Kz.out,by rw[hv2,hl2];exact OwL.nil⟩,Rp.out,S9.out,(by rw[hv2];exact fun e=>by cases e),Rp.out.size⟩;have Yu:=bx (SkC.refl g w2 v2);clear hg hv2 hl2 Yz Dd Vn Kz;obtain⟨l3,hl⟩:∃l',l2++[3405691582].flatMap (beB 4)=l':=⟨_,rfl⟩;have hn3:l3.length≤10:=by rw[←hl];simp [beB_len];omega
  have HP:=bx (Y9g w.heap.size g 4 1 v2 l2 l3 [3405691582] #[.int .i64 3405691582] w w2 Wn.out rfl rfl (by decide) (by decide) (by decide) (by omega) hl);have Nf:=bx hl;clear hl;go_wp2_with fail
  refine HP.out.mono ?_;rintro e w3 ⟨⟨_,rfl⟩,v3,hs,hc⟩;have Yg:=bx hs;have Yh:=bx (Yu.out.trans hc);clear hs hc HP;have Jr:=bx (Qs.out.skc Yh.out Dc.out (by rw[Vs.out];exact fun e=>by cases e));have f0_3:=Jr.out.im0 Zb.out;have f1_3:=Jr.out.im1 Zb.out;have f2_3:=Jr.out.im2 Zb.out;obtain⟨l4,hl⟩:∃l',l3++[x.minor,x.major,(x.pn:Int)].flatMap (beB 2)=l':=⟨_,rfl⟩;have hn4:l4.length≤20:=by rw[←hl];simp [beB_len];omega
  have HP:=bx (Y9g w.heap.size g 2 3 v3 l3 l4 [x.minor,x.major,(x.pn:Int)] #[.int .i64 x.minor,.int .i64 x.major,.int .i64 (x.pn:Int)] w w3 Yg.out rfl rfl (by decide) (by decide) (by decide) (by omega) hl);have HL4:=bx hl;clear hl;go_wp2_with fail
  refine HP.out.mono ?_;rintro e w4 ⟨⟨_,rfl⟩,v4,hs,hc⟩;have Yr:=bx hs;have Yl:=bx (Yh.out.trans hc);clear hs hc HP;have U7:=bx (Qs.out.skc Yl.out Dc.out (by rw[Vs.out];exact fun e=>by cases e));have f2_4:=U7.out.im2 Zb.out;clear f0_3 f1_3 f2_3;have HH:Bx (l4=headB x.p):=bx (by rw[←HL4.out,←Nf.out,Xu.out];have e:x.p.pool.length=x.pn:=HX.out.pl.1;unfold headB;rw[e];simp [ImE.p]);have HA4:Bx (SkR w w4 w.heap.size g v4 (l4++(x.pool.take 0).flatMap cstB)):=bx (by simpa using Yr.out);go_wp2
  go_loopw [28] (fun iv wx=>∃(j:Nat) (vj:Value),j≤x.pn∧iv = .int .i64 (j:Int)∧Bx (SkR w wx w.heap.size g vj (l4++(x.pool.take j).flatMap cstB))∧Bx (SkC g w2 v2 wx vj)∧Bx ((l4++(x.pool.take j).flatMap cstB).length≤3000000)) (fun iv _=>x.pn-(intOf iv).toNat)
  case atStart=>exact⟨0,v4,by omega,rfl,HA4,Yl,bx (by simp;omega)⟩
  case round=>
   clear HA4 f2_4 Wn Yg Yr Yu Yh Yl Jr U7;obtain⟨j,vj,hj,rfl,HS,HC,Yk⟩:=hrel;by_cases hjn:j<x.pn
   ·have hjI:(j:Int)<(x.pn:Int):=by omega
    obtain⟨ad,c,hA,_,Zl,p0,p1,p2,p3,p4⟩:=Y6l (HX.out.pool.below HS.out.bel (Z00 _)) (k:=j) (by rw[HX.out.pl.1];exact hjn);rw[hA];have HTC:=bx (X2e (Y6v (Y2o HQ.out) (show x.p.pool[j]? = some c from Zl.out)));have htl:=(HT.out c (Z15 Zl.out)).2;have hsz:(⟨c.text.toArray⟩:ByteArray).size=c.text.length:=(by simp [ByteArray.size]);have hsl:(⟨c.text.toArray⟩:ByteArray).data.toList=c.text:=rfl;obtain⟨sn,hsn⟩:∃sn:ByteArray,sn=⟨c.text.toArray⟩:=⟨_,rfl⟩;rw[←hsn]at p4 hsz hsl;have We:=bx hsz;have Wh:=bx hsl;obtain⟨l5,hl5⟩:∃l,l4++(x.pool.take j).flatMap cstB=l:=⟨_,rfl⟩;have Sa:=bx hl5;rw[hl5]at HS;obtain⟨A5,n5,c5,rfl,hn5,_⟩:=OwL.sl HS.out.rws.2;have Ca:=hn5;obtain⟨C,hC⟩:∃C,wr.heap.size=C:=⟨_,rfl⟩;have hgC:C≠g∧(Value.slice A5 n5 c5).ownBlock≠some C:=⟨fun e=>by have:=(HS.out.low g (.inl rfl)).2;omega,fun e=>by have:=(HS.out.low C (.inr e)).2;omega⟩;have Vr:=bx hgC;have Tq:=bx (Bk.newAt wr 68 #[.int .i64 c.tag,.int .i64 c.a,.int .i64 c.b,.int .i64 c.num,.string sn] hC);have Za:=bx (Y9z (Below.refl wr.heap.size wr) (Z00 _) (.cells #[.int .i64 c.tag,.int .i64 c.a,.int .i64 c.b,.int .i64 c.num,.string sn] 68));have Xk:=bx hC;clear hC hgC hl5 hn5 hsz hsl hsn;go_upto_region 9 with(fail)
    rw[Xk.out];generalize wr.alloc (.cells #[.int .i64 c.tag,.int .i64 c.a,.int .i64 c.b,.int .i64 c.num,.string sn] 68)=w5 at Tq Za ⊢;have Yt:=bx (HS.out.below Za.out);have Xz:=bx (HC.out.below Za.out);have Jq:=bx (SkC.refl g w5 (.slice A5 n5 c5));have s5:=Yt.out.cell;have c0:w5.cell? ⟨C,0,none⟩=some (.int .i64 c.tag):=(Tq.out.cell 0).trans rfl;clear p0 p1 p2 p3 p4 Xk HS HC Yk;by_cases hbig:32768<n5
    ·have hbI:(32768:Int)<(n5:Int):=by omega
     have Wo:Bx (W = .err 8):=bx (by rw[HN.out,if_pos];refine X0e (j:=j) ?_;show 32768<(headB x.p++(x.pool.take j).flatMap cstB).length;rw[←HH.out,Sa.out,←Ca.out];exact hbig);go_wp2;go_ret2;exact Y2q Wo.out Yt.out.bel (.inr rfl)
    ·have hbI:¬(32768:Int)<(n5:Int):=by omega
     have hn5:l5.length≤32768:=by rw[←Ca.out];omega
     have Qb:=bx hn5;rcases HTC.out with t0 | t1 | t3 | t5 | t7 | t9
     ·have ng1:¬c.tag=1:=by omega
      have ng3:¬c.tag=3:=(by omega);have ng5:¬c.tag=5:=(by omega);have ng7:¬c.tag=7:=(by omega);have ng8:¬c.tag=8:=(by omega);have ng9:¬c.tag=9:=(by omega);have ng10:¬c.tag=10:=(by omega);have ng11:¬c.tag=11:=(by omega);have ng12:¬c.tag=12:=by omega
      have N1:Bx (SkR w w5 w.heap.size g (.slice A5 n5 c5) (l4++(x.pool.take (j+1)).flatMap cstB)):=bx (by
       have e:l4++(x.pool.take (j+1)).flatMap cstB=l5:=by rw[Y9r Zl.out,Z29,←Z25,Sa.out];show _++(cstB c++[])=_;rw[W8h t0];simp
       rw[e];exact Yt.out)
      have N3:Bx ((l4++(x.pool.take (j+1)).flatMap cstB).length≤3000000):=bx (by
       have e:l4++(x.pool.take (j+1)).flatMap cstB=l5:=by rw[Y9r Zl.out,Z29,←Z25,Sa.out];show _++(cstB c++[])=_;rw[W8h t0];simp
       rw[e];omega)
      go_wp2;go_roundw
      case rel=>exact⟨j+1,_,by omega,by go_num,N1,Xz,N3⟩
      case measure=>simp [intOf];omega
     ·have ng3:¬c.tag=3:=by omega
      have ng5:¬c.tag=5:=(by omega);have ng7:¬c.tag=7:=(by omega);have ng8:¬c.tag=8:=(by omega);have ng9:¬c.tag=9:=(by omega);have ng10:¬c.tag=10:=(by omega);have ng11:¬c.tag=11:=(by omega);have ng12:¬c.tag=12:=(by omega);obtain⟨l6,hl⟩:∃l',l5++[1].flatMap (beB 1)=l':=⟨_,rfl⟩;have hn6:l6.length≤40000:=by rw[←hl];simp [beB_len];omega
      have HP:=bx (Y9g w.heap.size g 1 1 (.slice A5 n5 c5) l5 l6 [1] #[.int .i64 1] w w5 Yt.out rfl rfl (by decide) (by decide) (by decide) (by omega) hl);have Qr:=bx hl;clear hl;go_wp2_with fail
      refine HP.out.mono ?_;rintro e w6 ⟨⟨_,rfl⟩,v6,hs,hc⟩;have Ys:=bx hs;have Xt:=bx (Xz.out.trans hc);have Rj:=bx (Jq.out.trans hc);have Xg:=bx (Tq.out.skc Rj.out Vr.out.1 Vr.out.2);have c4_6:w6.cell? ⟨C,4,none⟩=some (.string sn):=(Xg.out.cell 4).trans rfl;clear hs hc HP;obtain⟨l7,hl⟩:∃l',l6++[(sn.size:Int)].flatMap (beB 2)=l':=⟨_,rfl⟩;have hn7:l7.length≤40010:=by rw[←hl];simp [beB_len];omega
      have HP:=bx (Y9g w.heap.size g 2 1 v6 l6 l7 [(sn.size:Int)] #[.int .i64 (sn.size:Int)] w w6 Ys.out rfl rfl (by decide) (by decide) (by decide) (by omega) hl);have Tc:=bx hl;clear hl;go_wp2_with fail
      refine HP.out.mono ?_;rintro e w7 ⟨⟨_,rfl⟩,v7,hs,hc⟩;have Yd:=bx hs;have Vi:=bx (Xt.out.trans hc);have HD7:=bx (Rj.out.trans hc);have E7:=bx (Tq.out.skc HD7.out Vr.out.1 Vr.out.2);have c4_7:w7.cell? ⟨C,4,none⟩=some (.string sn):=(E7.out.cell 4).trans rfl;clear hs hc HP;go_upto_region 15 with(fail)
      have s7:w7.drew.cell? ⟨g,0,none⟩=some v7:=Yd.out.cell;have d7:w7.drew.cell? ⟨C,4,none⟩=some (.string sn):=c4_7;have HNN:Bx (l7.length+sn.size≤140737488355328):=bx (by have:=We.out;omega);have hbase:w.heap.size≤w7.drew.heap.size:=Yd.out.z
      go_region_law ((refine Y2l _ rfl (.tmp 57) (.tmp 59) rfl byteTyP Tryz.underlying9 w.heap.size v7 l7 rfl (OwL.drew Yd.out.rws.2) sn rfl HNN.out hbase ?_;intro v9 w9 hO9 h9 n9;obtain⟨A9,m9,k9,rfl,hm9,_⟩:=OwL.sl hO9;have hK9:Bk w9 g 95 #[v7]:=(Yd.out.rws.1.drewN 1).ch h9 (fun e=>Yd.out.vg e);have hc9:w9.cell? ⟨g,0,none⟩=some v7:=(hK9.cell 0).trans rfl;have hf9:w9.frozen? ⟨g,0,none⟩=false:=hK9.frz 0))
      all_goals (
       obtain⟨k1,k2⟩:=W4x Yd.out hO9 h9 n9;have e:l4++(x.pool.take (j+1)).flatMap cstB=l7++sn.data.toList:=by rw[Y9r Zl.out,Z29,←Z25,Sa.out,←Tc.out,←Qr.out,Wh.out];show _++(cstB c++[])=_;rw[W4n t1];simp [t1,We.out]
       have N1:Bx (SkR w (w9.setCell ⟨g,0,none⟩ (.slice A9 m9 k9)) w.heap.size g (.slice A9 m9 k9) (l4++(x.pool.take (j+1)).flatMap cstB)):=bx (by rw[e];exact k1);have N2:=bx (Vi.out.trans k2);have N3:Bx ((l4++(x.pool.take (j+1)).flatMap cstB).length≤3000000):=bx (by rw[e,Z08,Wh.out];omega);clear k1 k2 e hO9 h9 n9 hK9 hm9;go_wp2;go_roundw
       case rel=>exact⟨j+1,_,by omega,by go_num,N1,N2,N3⟩
       case measure=>simp [intOf];omega)
     ·have ng1:¬c.tag=1:=by omega
      have ng5:¬c.tag=5:=(by omega);have ng7:¬c.tag=7:=(by omega);have ng8:¬c.tag=8:=(by omega);have ng9:¬c.tag=9:=(by omega);have ng10:¬c.tag=10:=(by omega);have ng11:¬c.tag=11:=(by omega);have ng12:¬c.tag=12:=(by omega);obtain⟨l6,hl⟩:∃l',l5++[3].flatMap (beB 1)=l':=⟨_,rfl⟩;have hn6:l6.length≤40000:=by rw[←hl];simp [beB_len];omega
      have HP:=bx (Y9g w.heap.size g 1 1 (.slice A5 n5 c5) l5 l6 [3] #[.int .i64 3] w w5 Yt.out rfl rfl (by decide) (by decide) (by decide) (by omega) hl);have Qr:=bx hl;clear hl;go_wp2_with fail
      refine HP.out.mono ?_;rintro e w6 ⟨⟨_,rfl⟩,v6,hs,hc⟩;have Ys:=bx hs;have Xt:=bx (Xz.out.trans hc);have Rj:=bx (Jq.out.trans hc);have Xg:=bx (Tq.out.skc Rj.out Vr.out.1 Vr.out.2);have c3_6:w6.cell? ⟨C,3,none⟩=some (.int .i64 c.num):=(Xg.out.cell 3).trans rfl;clear hs hc HP;obtain⟨l7,hl⟩:∃l',l6++[c.num].flatMap (beB 4)=l':=⟨_,rfl⟩;have hn7:l7.length≤40010:=by rw[←hl];simp [beB_len];omega
      have HP:=bx (Y9g w.heap.size g 4 1 v6 l6 l7 [c.num] #[.int .i64 c.num] w w6 Ys.out rfl rfl (by decide) (by decide) (by decide) (by omega) hl);have Tc:=bx hl;clear hl;go_wp2_with fail
      refine HP.out.mono ?_;rintro e w7 ⟨⟨_,rfl⟩,v7,hs,hc⟩;have Yd:=bx hs;have Vi:=bx (Xt.out.trans hc);clear hs hc HP
      have N1:Bx (SkR w w7 w.heap.size g v7 (l4++(x.pool.take (j+1)).flatMap cstB)):=bx (by
       have e:l4++(x.pool.take (j+1)).flatMap cstB=l7:=by rw[Y9r Zl.out,Z29,←Z25,Sa.out,←Tc.out,←Qr.out];show _++(cstB c++[])=_;rw[W7s t3];simp [t3]
       rw[e];exact Yd.out)
      have N3:Bx ((l4++(x.pool.take (j+1)).flatMap cstB).length≤3000000):=bx (by
       have e:l4++(x.pool.take (j+1)).flatMap cstB=l5++cstB c:=by rw[Y9r Zl.out,Z29,←Z25,Sa.out];show _++(cstB c++[])=_;rw[Z14]
       rw[e,W7s t3]
       have:=Qb.out
       simp [beB_len];omega)
      go_wp2;go_roundw
      case rel=>exact⟨j+1,_,by omega,by go_num,N1,Vi,N3⟩
      case measure=>simp [intOf];omega
     ·have ng1:¬c.tag=1:=by omega
      have ng3:¬c.tag=3:=(by omega);have ng7:¬c.tag=7:=(by omega);have ng8:¬c.tag=8:=(by omega);have ng9:¬c.tag=9:=(by omega);have ng10:¬c.tag=10:=(by omega);have ng11:¬c.tag=11:=(by omega);have ng12:¬c.tag=12:=(by omega);obtain⟨l6,hl⟩:∃l',l5++[5].flatMap (beB 1)=l':=⟨_,rfl⟩;have hn6:l6.length≤40000:=by rw[←hl];simp [beB_len];omega
      have HP:=bx (Y9g w.heap.size g 1 1 (.slice A5 n5 c5) l5 l6 [5] #[.int .i64 5] w w5 Yt.out rfl rfl (by decide) (by decide) (by decide) (by omega) hl);have Qr:=bx hl;clear hl;go_wp2_with fail
      refine HP.out.mono ?_;rintro e w6 ⟨⟨_,rfl⟩,v6,hs,hc⟩;have Ys:=bx hs;have Xt:=bx (Xz.out.trans hc);have Rj:=bx (Jq.out.trans hc);have Xg:=bx (Tq.out.skc Rj.out Vr.out.1 Vr.out.2);have c3_6:w6.cell? ⟨C,3,none⟩=some (.int .i64 c.num):=(Xg.out.cell 3).trans rfl;clear hs hc HP;obtain⟨l7,hl⟩:∃l',l6++[c.num].flatMap (beB 8)=l':=⟨_,rfl⟩;have hn7:l7.length≤40010:=by rw[←hl];simp [beB_len];omega
      have HP:=bx (Y9g w.heap.size g 8 1 v6 l6 l7 [c.num] #[.int .i64 c.num] w w6 Ys.out rfl rfl (by decide) (by decide) (by decide) (by omega) hl);have Tc:=bx hl;clear hl;go_wp2_with fail
      refine HP.out.mono ?_;rintro e w7 ⟨⟨_,rfl⟩,v7,hs,hc⟩;have Yd:=bx hs;have Vi:=bx (Xt.out.trans hc);clear hs hc HP
      have N1:Bx (SkR w w7 w.heap.size g v7 (l4++(x.pool.take (j+1)).flatMap cstB)):=bx (by
       have e:l4++(x.pool.take (j+1)).flatMap cstB=l7:=by rw[Y9r Zl.out,Z29,←Z25,Sa.out,←Tc.out,←Qr.out];show _++(cstB c++[])=_;rw[W7w t5];simp [t5]
       rw[e];exact Yd.out)
      have N3:Bx ((l4++(x.pool.take (j+1)).flatMap cstB).length≤3000000):=bx (by
       have e:l4++(x.pool.take (j+1)).flatMap cstB=l5++cstB c:=by rw[Y9r Zl.out,Z29,←Z25,Sa.out];show _++(cstB c++[])=_;rw[Z14]
       rw[e,W7w t5]
       have:=Qb.out
       simp [beB_len];omega)
      go_wp2;go_roundw
      case rel=>exact⟨j+1,_,by omega,by go_num,N1,Vi,N3⟩
      case measure=>simp [intOf];omega
     ·rcases t7 with u7 | u8
      ·have ng1:¬c.tag=1:=by omega
       have ng3:¬c.tag=3:=(by omega);have ng5:¬c.tag=5:=(by omega);have ng8:¬c.tag=8:=(by omega);have ng9:¬c.tag=9:=(by omega);have ng10:¬c.tag=10:=(by omega);have ng11:¬c.tag=11:=(by omega);have ng12:¬c.tag=12:=(by omega);obtain⟨l6,hl⟩:∃l',l5++[7].flatMap (beB 1)=l':=⟨_,rfl⟩;have hn6:l6.length≤40000:=by rw[←hl];simp [beB_len];omega
       have HP:=bx (Y9g w.heap.size g 1 1 (.slice A5 n5 c5) l5 l6 [7] #[.int .i64 7] w w5 Yt.out rfl rfl (by decide) (by decide) (by decide) (by omega) hl);have Qr:=bx hl;clear hl;go_wp2_with fail
       refine HP.out.mono ?_;rintro e w6 ⟨⟨_,rfl⟩,v6,hs,hc⟩;have Ys:=bx hs;have Xt:=bx (Xz.out.trans hc);have Rj:=bx (Jq.out.trans hc);have Xg:=bx (Tq.out.skc Rj.out Vr.out.1 Vr.out.2);have c1_6:w6.cell? ⟨C,1,none⟩=some (.int .i64 c.a):=(Xg.out.cell 1).trans rfl;clear hs hc HP;obtain⟨l7,hl⟩:∃l',l6++[c.a].flatMap (beB 2)=l':=⟨_,rfl⟩;have hn7:l7.length≤40010:=by rw[←hl];simp [beB_len];omega
       have HP:=bx (Y9g w.heap.size g 2 1 v6 l6 l7 [c.a] #[.int .i64 c.a] w w6 Ys.out rfl rfl (by decide) (by decide) (by decide) (by omega) hl);have Tc:=bx hl;clear hl;go_wp2_with fail
       refine HP.out.mono ?_;rintro e w7 ⟨⟨_,rfl⟩,v7,hs,hc⟩;have Yd:=bx hs;have Vi:=bx (Xt.out.trans hc);clear hs hc HP
       have N1:Bx (SkR w w7 w.heap.size g v7 (l4++(x.pool.take (j+1)).flatMap cstB)):=bx (by
        have e:l4++(x.pool.take (j+1)).flatMap cstB=l7:=by rw[Y9r Zl.out,Z29,←Z25,Sa.out,←Tc.out,←Qr.out];show _++(cstB c++[])=_;rw[X8s (Or.inl u7)];simp [u7]
        rw[e];exact Yd.out)
       have N3:Bx ((l4++(x.pool.take (j+1)).flatMap cstB).length≤3000000):=bx (by
        have e:l4++(x.pool.take (j+1)).flatMap cstB=l5++cstB c:=by rw[Y9r Zl.out,Z29,←Z25,Sa.out];show _++(cstB c++[])=_;rw[Z14]
        rw[e,X8s (Or.inl u7)]
        have:=Qb.out
        simp [beB_len];omega)
       go_wp2;go_roundw
       case rel=>exact⟨j+1,_,by omega,by go_num,N1,Vi,N3⟩
       case measure=>simp [intOf];omega
      ·have ng1:¬c.tag=1:=by omega
       have ng3:¬c.tag=3:=(by omega);have ng5:¬c.tag=5:=(by omega);have ng7:¬c.tag=7:=(by omega);have ng9:¬c.tag=9:=(by omega);have ng10:¬c.tag=10:=(by omega);have ng11:¬c.tag=11:=(by omega);have ng12:¬c.tag=12:=(by omega);obtain⟨l6,hl⟩:∃l',l5++[8].flatMap (beB 1)=l':=⟨_,rfl⟩;have hn6:l6.length≤40000:=by rw[←hl];simp [beB_len];omega
       have HP:=bx (Y9g w.heap.size g 1 1 (.slice A5 n5 c5) l5 l6 [8] #[.int .i64 8] w w5 Yt.out rfl rfl (by decide) (by decide) (by decide) (by omega) hl);have Qr:=bx hl;clear hl;go_wp2_with fail
       refine HP.out.mono ?_;rintro e w6 ⟨⟨_,rfl⟩,v6,hs,hc⟩;have Ys:=bx hs;have Xt:=bx (Xz.out.trans hc);have Rj:=bx (Jq.out.trans hc);have Xg:=bx (Tq.out.skc Rj.out Vr.out.1 Vr.out.2);have c1_6:w6.cell? ⟨C,1,none⟩=some (.int .i64 c.a):=(Xg.out.cell 1).trans rfl;clear hs hc HP;obtain⟨l7,hl⟩:∃l',l6++[c.a].flatMap (beB 2)=l':=⟨_,rfl⟩;have hn7:l7.length≤40010:=by rw[←hl];simp [beB_len];omega
       have HP:=bx (Y9g w.heap.size g 2 1 v6 l6 l7 [c.a] #[.int .i64 c.a] w w6 Ys.out rfl rfl (by decide) (by decide) (by decide) (by omega) hl);have Tc:=bx hl;clear hl;go_wp2_with fail
       refine HP.out.mono ?_;rintro e w7 ⟨⟨_,rfl⟩,v7,hs,hc⟩;have Yd:=bx hs;have Vi:=bx (Xt.out.trans hc);clear hs hc HP
       have N1:Bx (SkR w w7 w.heap.size g v7 (l4++(x.pool.take (j+1)).flatMap cstB)):=bx (by
        have e:l4++(x.pool.take (j+1)).flatMap cstB=l7:=by rw[Y9r Zl.out,Z29,←Z25,Sa.out,←Tc.out,←Qr.out];show _++(cstB c++[])=_;rw[X8s (Or.inr u8)];simp [u8]
        rw[e];exact Yd.out)
       have N3:Bx ((l4++(x.pool.take (j+1)).flatMap cstB).length≤3000000):=bx (by
        have e:l4++(x.pool.take (j+1)).flatMap cstB=l5++cstB c:=by rw[Y9r Zl.out,Z29,←Z25,Sa.out];show _++(cstB c++[])=_;rw[Z14]
        rw[e,X8s (Or.inr u8)]
        have:=Qb.out
        simp [beB_len];omega)
       go_wp2;go_roundw
       case rel=>exact⟨j+1,_,by omega,by go_num,N1,Vi,N3⟩
       case measure=>simp [intOf];omega
     ·rcases t9 with u9 | u10 | u11 | u12
      ·have ng1:¬c.tag=1:=by omega
       have ng3:¬c.tag=3:=(by omega);have ng5:¬c.tag=5:=(by omega);have ng7:¬c.tag=7:=(by omega);have ng8:¬c.tag=8:=(by omega);have ng10:¬c.tag=10:=(by omega);have ng11:¬c.tag=11:=(by omega);have ng12:¬c.tag=12:=(by omega);obtain⟨l6,hl⟩:∃l',l5++[9].flatMap (beB 1)=l':=⟨_,rfl⟩;have hn6:l6.length≤40000:=by rw[←hl];simp [beB_len];omega
       have HP:=bx (Y9g w.heap.size g 1 1 (.slice A5 n5 c5) l5 l6 [9] #[.int .i64 9] w w5 Yt.out rfl rfl (by decide) (by decide) (by decide) (by omega) hl);have Qr:=bx hl;clear hl;go_wp2_with fail
       refine HP.out.mono ?_;rintro e w6 ⟨⟨_,rfl⟩,v6,hs,hc⟩;have Ys:=bx hs;have Xt:=bx (Xz.out.trans hc);have Rj:=bx (Jq.out.trans hc);have Xg:=bx (Tq.out.skc Rj.out Vr.out.1 Vr.out.2);have c1_6:w6.cell? ⟨C,1,none⟩=some (.int .i64 c.a):=(Xg.out.cell 1).trans rfl;have c2_6:w6.cell? ⟨C,2,none⟩=some (.int .i64 c.b):=(Xg.out.cell 2).trans rfl;clear hs hc HP;obtain⟨l7,hl⟩:∃l',l6++[c.a,c.b].flatMap (beB 2)=l':=⟨_,rfl⟩;have hn7:l7.length≤40010:=by rw[←hl];simp [beB_len];omega
       have HP:=bx (Y9g w.heap.size g 2 2 v6 l6 l7 [c.a,c.b] #[.int .i64 c.a,.int .i64 c.b] w w6 Ys.out rfl rfl (by decide) (by decide) (by decide) (by omega) hl);have Tc:=bx hl;clear hl;go_wp2_with fail
       refine HP.out.mono ?_;rintro e w7 ⟨⟨_,rfl⟩,v7,hs,hc⟩;have Yd:=bx hs;have Vi:=bx (Xt.out.trans hc);clear hs hc HP
       have N1:Bx (SkR w w7 w.heap.size g v7 (l4++(x.pool.take (j+1)).flatMap cstB)):=bx (by
        have e:l4++(x.pool.take (j+1)).flatMap cstB=l7:=by rw[Y9r Zl.out,Z29,←Z25,Sa.out,←Tc.out,←Qr.out];show _++(cstB c++[])=_;rw[Y5w (Or.inl u9)];simp [u9]
        rw[e];exact Yd.out)
       have N3:Bx ((l4++(x.pool.take (j+1)).flatMap cstB).length≤3000000):=bx (by
        have e:l4++(x.pool.take (j+1)).flatMap cstB=l5++cstB c:=by rw[Y9r Zl.out,Z29,←Z25,Sa.out];show _++(cstB c++[])=_;rw[Z14]
        rw[e,Y5w (Or.inl u9)]
        have:=Qb.out
        simp [beB_len];omega)
       go_wp2;go_roundw
       case rel=>exact⟨j+1,_,by omega,by go_num,N1,Vi,N3⟩
       case measure=>simp [intOf];omega
      ·have ng1:¬c.tag=1:=by omega
       have ng3:¬c.tag=3:=(by omega);have ng5:¬c.tag=5:=(by omega);have ng7:¬c.tag=7:=(by omega);have ng8:¬c.tag=8:=(by omega);have ng9:¬c.tag=9:=(by omega);have ng11:¬c.tag=11:=(by omega);have ng12:¬c.tag=12:=(by omega);obtain⟨l6,hl⟩:∃l',l5++[10].flatMap (beB 1)=l':=⟨_,rfl⟩;have hn6:l6.length≤40000:=by rw[←hl];simp [beB_len];omega
       have HP:=bx (Y9g w.heap.size g 1 1 (.slice A5 n5 c5) l5 l6 [10] #[.int .i64 10] w w5 Yt.out rfl rfl (by decide) (by decide) (by decide) (by omega) hl);have Qr:=bx hl;clear hl;go_wp2_with fail
       refine HP.out.mono ?_;rintro e w6 ⟨⟨_,rfl⟩,v6,hs,hc⟩;have Ys:=bx hs;have Xt:=bx (Xz.out.trans hc);have Rj:=bx (Jq.out.trans hc);have Xg:=bx (Tq.out.skc Rj.out Vr.out.1 Vr.out.2);have c1_6:w6.cell? ⟨C,1,none⟩=some (.int .i64 c.a):=(Xg.out.cell 1).trans rfl;have c2_6:w6.cell? ⟨C,2,none⟩=some (.int .i64 c.b):=(Xg.out.cell 2).trans rfl;clear hs hc HP;obtain⟨l7,hl⟩:∃l',l6++[c.a,c.b].flatMap (beB 2)=l':=⟨_,rfl⟩;have hn7:l7.length≤40010:=by rw[←hl];simp [beB_len];omega
       have HP:=bx (Y9g w.heap.size g 2 2 v6 l6 l7 [c.a,c.b] #[.int .i64 c.a,.int .i64 c.b] w w6 Ys.out rfl rfl (by decide) (by decide) (by decide) (by omega) hl);have Tc:=bx hl;clear hl;go_wp2_with fail
       refine HP.out.mono ?_;rintro e w7 ⟨⟨_,rfl⟩,v7,hs,hc⟩;have Yd:=bx hs;have Vi:=bx (Xt.out.trans hc);clear hs hc HP
       have N1:Bx (SkR w w7 w.heap.size g v7 (l4++(x.pool.take (j+1)).flatMap cstB)):=bx (by
        have e:l4++(x.pool.take (j+1)).flatMap cstB=l7:=by rw[Y9r Zl.out,Z29,←Z25,Sa.out,←Tc.out,←Qr.out];show _++(cstB c++[])=_;rw[Y5w (Or.inr (Or.inl u10))];simp [u10]
        rw[e];exact Yd.out)
       have N3:Bx ((l4++(x.pool.take (j+1)).flatMap cstB).length≤3000000):=bx (by
        have e:l4++(x.pool.take (j+1)).flatMap cstB=l5++cstB c:=by rw[Y9r Zl.out,Z29,←Z25,Sa.out];show _++(cstB c++[])=_;rw[Z14]
        rw[e,Y5w (Or.inr (Or.inl u10))]
        have:=Qb.out
        simp [beB_len];omega)
       go_wp2;go_roundw
       case rel=>exact⟨j+1,_,by omega,by go_num,N1,Vi,N3⟩
       case measure=>simp [intOf];omega
      ·have ng1:¬c.tag=1:=by omega
       have ng3:¬c.tag=3:=(by omega);have ng5:¬c.tag=5:=(by omega);have ng7:¬c.tag=7:=(by omega);have ng8:¬c.tag=8:=(by omega);have ng9:¬c.tag=9:=(by omega);have ng10:¬c.tag=10:=(by omega);have ng12:¬c.tag=12:=(by omega);obtain⟨l6,hl⟩:∃l',l5++[11].flatMap (beB 1)=l':=⟨_,rfl⟩;have hn6:l6.length≤40000:=by rw[←hl];simp [beB_len];omega
       have HP:=bx (Y9g w.heap.size g 1 1 (.slice A5 n5 c5) l5 l6 [11] #[.int .i64 11] w w5 Yt.out rfl rfl (by decide) (by decide) (by decide) (by omega) hl);have Qr:=bx hl;clear hl;go_wp2_with fail
       refine HP.out.mono ?_;rintro e w6 ⟨⟨_,rfl⟩,v6,hs,hc⟩;have Ys:=bx hs;have Xt:=bx (Xz.out.trans hc);have Rj:=bx (Jq.out.trans hc);have Xg:=bx (Tq.out.skc Rj.out Vr.out.1 Vr.out.2);have c1_6:w6.cell? ⟨C,1,none⟩=some (.int .i64 c.a):=(Xg.out.cell 1).trans rfl;have c2_6:w6.cell? ⟨C,2,none⟩=some (.int .i64 c.b):=(Xg.out.cell 2).trans rfl;clear hs hc HP;obtain⟨l7,hl⟩:∃l',l6++[c.a,c.b].flatMap (beB 2)=l':=⟨_,rfl⟩;have hn7:l7.length≤40010:=by rw[←hl];simp [beB_len];omega
       have HP:=bx (Y9g w.heap.size g 2 2 v6 l6 l7 [c.a,c.b] #[.int .i64 c.a,.int .i64 c.b] w w6 Ys.out rfl rfl (by decide) (by decide) (by decide) (by omega) hl);have Tc:=bx hl;clear hl;go_wp2_with fail
       refine HP.out.mono ?_;rintro e w7 ⟨⟨_,rfl⟩,v7,hs,hc⟩;have Yd:=bx hs;have Vi:=bx (Xt.out.trans hc);clear hs hc HP
       have N1:Bx (SkR w w7 w.heap.size g v7 (l4++(x.pool.take (j+1)).flatMap cstB)):=bx (by
        have e:l4++(x.pool.take (j+1)).flatMap cstB=l7:=by rw[Y9r Zl.out,Z29,←Z25,Sa.out,←Tc.out,←Qr.out];show _++(cstB c++[])=_;rw[Y5w (Or.inr (Or.inr (Or.inl u11)))];simp [u11]
        rw[e];exact Yd.out)
       have N3:Bx ((l4++(x.pool.take (j+1)).flatMap cstB).length≤3000000):=bx (by
        have e:l4++(x.pool.take (j+1)).flatMap cstB=l5++cstB c:=by rw[Y9r Zl.out,Z29,←Z25,Sa.out];show _++(cstB c++[])=_;rw[Z14]
        rw[e,Y5w (Or.inr (Or.inr (Or.inl u11)))]
        have:=Qb.out
        simp [beB_len];omega)
       go_wp2;go_roundw
       case rel=>exact⟨j+1,_,by omega,by go_num,N1,Vi,N3⟩
       case measure=>simp [intOf];omega
      ·have ng1:¬c.tag=1:=by omega
       have ng3:¬c.tag=3:=(by omega);have ng5:¬c.tag=5:=(by omega);have ng7:¬c.tag=7:=(by omega);have ng8:¬c.tag=8:=(by omega);have ng9:¬c.tag=9:=(by omega);have ng10:¬c.tag=10:=(by omega);have ng11:¬c.tag=11:=(by omega);obtain⟨l6,hl⟩:∃l',l5++[12].flatMap (beB 1)=l':=⟨_,rfl⟩;have hn6:l6.length≤40000:=by rw[←hl];simp [beB_len];omega
       have HP:=bx (Y9g w.heap.size g 1 1 (.slice A5 n5 c5) l5 l6 [12] #[.int .i64 12] w w5 Yt.out rfl rfl (by decide) (by decide) (by decide) (by omega) hl);have Qr:=bx hl;clear hl;go_wp2_with fail
       refine HP.out.mono ?_;rintro e w6 ⟨⟨_,rfl⟩,v6,hs,hc⟩;have Ys:=bx hs;have Xt:=bx (Xz.out.trans hc);have Rj:=bx (Jq.out.trans hc);have Xg:=bx (Tq.out.skc Rj.out Vr.out.1 Vr.out.2);have c1_6:w6.cell? ⟨C,1,none⟩=some (.int .i64 c.a):=(Xg.out.cell 1).trans rfl;have c2_6:w6.cell? ⟨C,2,none⟩=some (.int .i64 c.b):=(Xg.out.cell 2).trans rfl;clear hs hc HP;obtain⟨l7,hl⟩:∃l',l6++[c.a,c.b].flatMap (beB 2)=l':=⟨_,rfl⟩;have hn7:l7.length≤40010:=by rw[←hl];simp [beB_len];omega
       have HP:=bx (Y9g w.heap.size g 2 2 v6 l6 l7 [c.a,c.b] #[.int .i64 c.a,.int .i64 c.b] w w6 Ys.out rfl rfl (by decide) (by decide) (by decide) (by omega) hl);have Tc:=bx hl;clear hl;go_wp2_with fail
       refine HP.out.mono ?_;rintro e w7 ⟨⟨_,rfl⟩,v7,hs,hc⟩;have Yd:=bx hs;have Vi:=bx (Xt.out.trans hc);clear hs hc HP
       have N1:Bx (SkR w w7 w.heap.size g v7 (l4++(x.pool.take (j+1)).flatMap cstB)):=bx (by
        have e:l4++(x.pool.take (j+1)).flatMap cstB=l7:=by rw[Y9r Zl.out,Z29,←Z25,Sa.out,←Tc.out,←Qr.out];show _++(cstB c++[])=_;rw[Y5w (Or.inr (Or.inr (Or.inr u12)))];simp [u12]
        rw[e];exact Yd.out)
       have N3:Bx ((l4++(x.pool.take (j+1)).flatMap cstB).length≤3000000):=bx (by
        have e:l4++(x.pool.take (j+1)).flatMap cstB=l5++cstB c:=by rw[Y9r Zl.out,Z29,←Z25,Sa.out];show _++(cstB c++[])=_;rw[Z14]
        rw[e,Y5w (Or.inr (Or.inr (Or.inr u12)))]
        have:=Qb.out
        simp [beB_len];omega)
       go_wp2;go_roundw
       case rel=>exact⟨j+1,_,by omega,by go_num,N1,Vi,N3⟩
       case measure=>simp [intOf];omega
   ·obtain rfl:j=x.pn:=by omega
    have hjI:¬(x.pn:Int)<(x.pn:Int):=(by omega);have Vl:=bx (X2t HQ.out);have Bj:x.pool.take x.pn=x.pool:=Z12 (by rw[HX.out.pl.1];exact Z00 _);rw[Bj]at HS Yk;obtain⟨l20,hl20⟩:∃l,l4++x.pool.flatMap cstB=l:=⟨_,rfl⟩;have E6:=bx hl20;rw[hl20]at HS Yk;have hn20:=Yk.out;have E5:=HS;have U6:=HC;clear Bj hl20 HS HC Yk;have Pg:=bx (Qs.out.skc U6.out Dc.out (by rw[Vs.out];exact fun e=>by cases e));have f3_20:=Pg.out.im3 Zb.out;have f4_20:=Pg.out.im4 Zb.out;have f5_20:=Pg.out.im5 Zb.out;have f6_20:=Pg.out.im6 Zb.out;obtain⟨l21,hl⟩:∃l',l20++[x.access,x.this,x.super,(x.i_n:Int)].flatMap (beB 2)=l':=⟨_,rfl⟩;have hn21:l21.length≤3000010:=by rw[←hl];simp [beB_len];omega
    have HP:=bx (Y9g w.heap.size g 2 4 vj l20 l21 [x.access,x.this,x.super,(x.i_n:Int)] #[.int .i64 x.access,.int .i64 x.this,.int .i64 x.super,.int .i64 (x.i_n:Int)] w wr E5.out rfl rfl (by decide) (by decide) (by decide) (by omega) hl);have E4:=bx hl;clear hl;go_wp2_with fail
    refine HP.out.mono ?_;rintro e w21 ⟨⟨_,rfl⟩,v21,hs,hc⟩;have Db:=bx hs;have U5:=bx (U6.out.trans hc);clear hs hc HP;have U4:=bx (Qs.out.skc U5.out Dc.out (by rw[Vs.out];exact fun e=>by cases e));have f6_21:=U4.out.im6 Zb.out;have hi64:x.i_n≤64:=by have:=Vl.out.1;have:=HX.out.il.1;omega
    obtain⟨l22,hl⟩:∃l',l21++x.ifs.flatMap (beB 2)=l':=⟨_,rfl⟩;have hn22:l22.length≤3000200:=by rw[←hl,Z08,Y4z];have:=Vl.out.1;omega
    have HP:=bx (W7t w.heap.size g 2 x.i_n x.ic v21 l21 l22 x.iA x.ifs w w21 Db.out HX.out.il.1 (RL.top (HX.out.ifs.below Db.out.bel (Z00 _))) (fun hne ad e hf=>by
     obtain⟨ad',_,e2,hlt,_⟩:=RL.atl HX.out.ifs (k:=0) (List.length_pos_iff.2 hne);rw[e]at e2;injection e2 with e2
     subst e2
     have:=(Db.out.low _ hf).1
     omega) (by decide) (by decide) hi64 (by omega) hl)
    have E3:=bx hl;clear hl;go_wp2_with fail
    refine HP.out.mono ?_;rintro e w22 ⟨⟨_,rfl⟩,v22,hs,hc⟩;have E2:=bx hs;have U3:=bx (U5.out.trans hc);clear hs hc HP;have U2:=bx (Qs.out.skc U3.out Dc.out (by rw[Vs.out];exact fun e=>by cases e));have f7_22:=U2.out.im7 Zb.out;obtain⟨l23,hl⟩:∃l',l22++memsB (x.fs.map MmE.p)=l':=⟨_,rfl⟩;have hn23:l23.length≤200000000:=by rw[←hl,Z08];have:=Y2a x.fs Vl.out.2.1.1 Vl.out.2.1.2;omega
    have HP:=bx (Y4d w.heap.size g v22 l22 x.fA x.fn x.fc x.fs w w22 E2.out HX.out.fl.1 (by have:=Vl.out.2.1.1;have:=HX.out.fl.1;omega) Vl.out.2.1.2 HX.out.fs (by omega));rw[hl]at HP;have E1:=bx hl;clear hl;go_wp2_with fail
    refine HP.out.mono ?_;rintro e w23 ⟨⟨_,rfl⟩,v23,hs,hc⟩;have E0:=bx hs;have U1:=bx (U3.out.trans hc);clear hs hc HP;have U0:=bx (Qs.out.skc U1.out Dc.out (by rw[Vs.out];exact fun e=>by cases e));have f8_23:=U0.out.im8 Zb.out;obtain⟨l24,hl⟩:∃l',l23++memsB (x.ms.map MmE.p)=l':=⟨_,rfl⟩;have hn24:l24.length≤400000000:=by rw[←hl,Z08];have:=Y2a x.ms Vl.out.2.2.1.1 Vl.out.2.2.1.2;omega
    have HP:=bx (Y4d w.heap.size g v23 l23 x.mA x.mn x.mc x.ms w w23 E0.out HX.out.ml.1 (by have:=Vl.out.2.2.1.1;have:=HX.out.ml.1;omega) Vl.out.2.2.1.2 HX.out.ms (by omega));rw[hl]at HP;have D9:=bx hl;clear hl;go_wp2_with fail
    refine HP.out.mono ?_;rintro e w24 ⟨⟨_,rfl⟩,v24,hs,hc⟩;have D8:=bx hs;have T9:=bx (U1.out.trans hc);clear hs hc HP;have T8:=bx (Qs.out.skc T9.out Dc.out (by rw[Vs.out];exact fun e=>by cases e));have f9_24:=T8.out.im9 Zb.out;obtain⟨l25,hl⟩:∃l',l24++attsB (x.as_.map AtE.p)=l':=⟨_,rfl⟩;have hn25:l25.length≤500000000:=by rw[←hl,Z08];have:=Y1p x.as_ Vl.out.2.2.2.1 Vl.out.2.2.2.2;omega
    have HP:=bx (X7z w.heap.size g v24 l24 x.aA x.an x.ac x.as_ w w24 D8.out HX.out.al.1 (by have:=Vl.out.2.2.2.1;have:=HX.out.al.1;omega) Vl.out.2.2.2.2 HX.out.as_ (by omega));rw[hl]at HP;have D7:=bx hl;clear hl;go_wp2_with fail
    refine HP.out.mono ?_;rintro e w25 ⟨⟨_,rfl⟩,v25,hs,hc⟩;have Lj:=bx hs;have HC25:=bx (T9.out.trans hc);clear hs hc HP;have Cj:Bx (l25=imgB x.p):=bx (by have e:x.p.ifaces.length=x.i_n:=HX.out.il.1;rw[X2m,←D7.out,←D9.out,←E1.out,←E3.out,←E4.out,←E6.out,HH.out];unfold tailB ifB;rw[e];simp [ImE.p]);obtain⟨A5,n5,c5,rfl,hn5,_⟩:=OwL.sl Lj.out.rws.2;have Ca:=hn5;have s25:=Lj.out.cell;clear hn5;by_cases hbig:32768<n5
    ·have hbI:(32768:Int)<(n5:Int):=by omega
     have Wo:Bx (W = .err 8):=bx (by rw[HN.out,if_pos (by rw[←Cj.out,←Ca.out];exact hbig)]);go_wp2;go_ret2;exact Y2q Wo.out Lj.out.bel (.inr rfl)
    ·have hbI:¬(32768:Int)<(n5:Int):=by omega
     have Wo:Bx (W = .ok l25):=bx (by rw[HN.out,if_neg (by rw[←Cj.out,←Ca.out];exact hbig),Cj.out]);have Q8:Bx (l25.length≤32768):=bx (by rw[←Ca.out];omega);go_wp2;go_ret2;exact W6k Wo.out Lj.out.bel Lj.out.rws.2 Q8.out
end Go.Proofs.YtpmfiegfbmamiaaGreatDoor
