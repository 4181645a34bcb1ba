/- Parts: Contracts: image.Text and Class. Contracts of klass: must, bits; a view's text, class, plain. Contracts of klass's reader: over, num, end. Contracts of klass: over, end; a reader's types. Contract of klass's reader: types. Steps of klass's walks: a call that may throw, both ways. Contract of klass's view: named. Contracts of klass: bits, access. Steps of klass's walks: calls of name's functions on texts. Contract of klass's reader: frames. Contract: klass.fits. Plain: attributes of a name that nobody asks for change nothing of what a class file means. -/
import Derived.Test.YtpmfiegfbmamiaaDoorPm6
import Derived.Test.YtpmfiegfbmamiaaDoorPm3
import Derived.Deep.RegionHeld3
import Derived.Test.YtpmfiegfbmamiaaDoorPm2
import Derived.WalkLawsBesides
import Derived.Laws.BitsAllLaws
import Derived.Deep.RegionWith
import Derived.BigRegion
import Derived.Deep.CutBlock
import Derived.Test.YtpmfiegfbmamiaaDoorPm5
namespace Go.Proofs.YtpmfiegfbmamiaaDoor
set_option maxRecDepth 100000
set_option maxHeartbeats 8000000
open Go.RowKit
def textP (m:Img) (i:Int):List UInt8×Bool:=if tagP m.pool i=1 then match m.pool[i.toNat]? with
  | some c=>(c.text,true)
  | none=>([],false)
 else ([],false)
def classP (m:Img) (i:Int):List UInt8×Bool:=if tagP m.pool i=7 then match m.pool[i.toNat]? with
  | some c=>textP m c.a
  | none=>([],false)
 else ([],false)
def TextPost (r:List UInt8×Bool) (w:World) (e:Ending) (w':World):Prop:=e = .returned (.tuple #[.string ⟨r.1.toArray⟩,.bool r.2])∧Below w.heap.size w w'
theorem W8z {L:List Cst} {i t:Int} (h:tagP L i=t) (ht:t≠0):∃(k:Nat) (c:Cst),i=(k:Int)∧L[k]? = some c∧c.tag=t∧k<L.length:=by
 unfold tagP at h;by_cases h1:i<1
 ·rw[if_pos h1]at h;exact absurd h.symm ht
 rw[if_neg h1]at h;cases hc:L[i.toNat]? with
 | none=>rw[hc]at h;exact absurd h.symm ht
 | some c=>rw[hc]at h;exact⟨i.toNat,c,by omega,hc,h,(Z24.1 hc).1⟩
theorem Y1r (x:ImE) (i:Int) (w:World) (hx:RIm w w.heap.size x) :
  Calls Tryd.prog 71 #[.agg (imC x),.int .i64 i] w (TextPost (textP x.p i) w):=by
 obtain⟨T,hT⟩:∃T,textP x.p i=T:=⟨_,rfl⟩;rw[hT];have HT:=bx hT;clear hT;have HX:=bx hx;have hpb:(x.pn:Int)≤9223372036854775807:=by have:=hx.pl;omega
 obtain⟨cs,hcs⟩:∃cs,cs=imC x:=⟨_,rfl⟩;rw[←hcs];have Yt:=bx hcs;obtain⟨B,hB⟩:∃B,w.heap.size=B:=⟨_,rfl⟩;have Yi:=bx (Bk.newAt w 34 cs hB);have Qq:=bx (Y9z (Below.refl w.heap.size w) (Z00 _) (.cells cs 34));have HB:=bx hB;clear hx hcs hB
 go_enter Tryd.func71,Tryd.ntmps71
 go_upto_region 1 with(fail)
 rw[HB.out];generalize w.alloc (.cells cs 34)=wb at Yi Qq ⊢;have Ji:=bx (HX.out.up Qq.out);have f2:=Yi.out.im2 Yt.out;cases hq:decide (tagP x.pool i=1) with
 | false=>
  have HQ:=bx hq;have HN:Bx (T=([],false)):=bx (by rw[←HT.out];unfold textP;rw[if_neg (show ¬tagP x.p.pool i=1 from of_decide_eq_false hq)]);clear hq;go_wp2_with (go_at_call 34;refine(Y9g _ x.pn _ x.pool _ 1 wb HX.out.pl.1 hpb (by decide) Ji.out.pool).mono ?_;rintro e w' ⟨rfl,rfl⟩;rw[HQ.out])
  go_ret2;exact⟨by rw[HN.out];rfl,Qq.out⟩
 | true=>
  obtain⟨k,c,rfl,hc,hct,hk⟩:=W8z (Z49 hq) (by decide);have HQ:=bx hq;have hkn:k<x.pn:=by have:=HX.out.pl.1;omega
  have hkI:(k:Int)<(x.pn:Int):=(by omega);have hkJ:(0:Int)≤(k:Int):=(by omega);have hkK:(k:Int).toNat=k:=(by omega);have HN:Bx (T=(c.text,true)):=bx (by rw[←HT.out];unfold textP;rw[if_pos (show tagP x.p.pool (k:Int)=1 from Z49 hq),hkK];have hc:x.p.pool[k]? = some c:=hc;rw[hc]);obtain⟨ad,c',hA,_,HC',p0,p1,p2,p3,p4⟩:=Y4c Ji.out.pool (k:=k) hk;obtain rfl:c=c':=by have:=hc.symm.trans HC'.out;injection this
  rw[hA]at f2;have Bu:Bx (RS cstC wb wb.heap.size (some ad) x.pool):=bx (by rw[←hA];exact Ji.out.pool);clear hq hc hct hk hA;go_wp2_with (go_at_call 34;refine(Y9g _ x.pn _ x.pool _ 1 wb HX.out.pl.1 hpb (by decide) Bu.out).mono ?_;rintro e w' ⟨rfl,rfl⟩;rw[HQ.out])
  go_ret2;exact⟨by rw[HN.out];rfl,Qq.out⟩
theorem X8o (x:ImE) (i:Int) (w:World) (hx:RIm w w.heap.size x) :
  Calls Tryd.prog 77 #[.agg (imC x),.int .i64 i] w (TextPost (classP x.p i) w):=by
 obtain⟨T,hT⟩:∃T,classP x.p i=T:=⟨_,rfl⟩;rw[hT];have HT:=bx hT;clear hT;have HX:=bx hx;have hpb:(x.pn:Int)≤9223372036854775807:=by have:=hx.pl;omega
 obtain⟨cs,hcs⟩:∃cs,cs=imC x:=⟨_,rfl⟩;rw[←hcs];have Yt:=bx hcs;obtain⟨B,hB⟩:∃B,w.heap.size=B:=⟨_,rfl⟩;have Yi:=bx (Bk.newAt w 34 cs hB);have Qq:=bx (Y9z (Below.refl w.heap.size w) (Z00 _) (.cells cs 34));have HB:=bx hB;clear hx hcs hB
 go_enter Tryd.func77,Tryd.ntmps77
 go_upto_region 1 with(fail)
 rw[HB.out];generalize w.alloc (.cells cs 34)=wb at Yi Qq ⊢;have Ji:=bx (HX.out.up Qq.out);have f2:=Yi.out.im2 Yt.out;cases hq:decide (tagP x.pool i=7) with
 | false=>
  have HQ:=bx hq;have HN:Bx (T=([],false)):=bx (by rw[←HT.out];unfold classP;rw[if_neg (show ¬tagP x.p.pool i=7 from of_decide_eq_false hq)]);clear hq;go_wp2_with (go_at_call 34;refine(Y9g _ x.pn _ x.pool _ 7 wb HX.out.pl.1 hpb (by decide) Ji.out.pool).mono ?_;rintro e w' ⟨rfl,rfl⟩;rw[HQ.out])
  go_ret2;exact⟨by rw[HN.out];rfl,Qq.out⟩
 | true=>
  obtain⟨k,c,rfl,hc,hct,hk⟩:=W8z (Z49 hq) (by decide);have HQ:=bx hq;have hkn:k<x.pn:=by have:=HX.out.pl.1;omega
  have hkI:(k:Int)<(x.pn:Int):=(by omega);have hkJ:(0:Int)≤(k:Int):=(by omega);have hkK:(k:Int).toNat=k:=(by omega);have HN:Bx (T=textP x.p c.a):=bx (by rw[←HT.out];unfold classP;rw[if_pos (show tagP x.p.pool (k:Int)=7 from Z49 hq),hkK];have hc:x.p.pool[k]? = some c:=hc;rw[hc]);obtain⟨ad,c',hA,_,HC',p0,p1,p2,p3,p4⟩:=Y4c Ji.out.pool (k:=k) hk;obtain rfl:c=c':=by have:=hc.symm.trans HC'.out;injection this
  rw[hA]at f2;have Bu:Bx (RS cstC wb wb.heap.size (some ad) x.pool):=bx (by rw[←hA];exact Ji.out.pool);have G1:=bx hA;clear hq hc hct hk hA;go_upto_region 3 with(go_at_call 34;refine(Y9g _ x.pn _ x.pool _ 7 wb HX.out.pl.1 hpb (by decide) Bu.out).mono ?_;rintro e w' ⟨rfl,rfl⟩;rw[HQ.out])
  have f0:=Yi.out.im0 Yt.out;have f1:=Yi.out.im1 Yt.out;have f3:=Yi.out.im3 Yt.out;have f4:=Yi.out.im4 Yt.out;have f5:=Yi.out.im5 Yt.out;have f6:=Yi.out.im6 Yt.out;have f7:=Yi.out.im7 Yt.out;have f8:=Yi.out.im8 Yt.out;have f9:=Yi.out.im9 Yt.out
  have Vi:Bx (Calls Tryd.prog 71 #[.agg #[.int .i64 x.minor,.int .i64 x.major,.slice (some ad) x.pn x.pc,.int .i64 x.access,.int .i64 x.this,.int .i64 x.super,.slice x.iA x.i_n x.ic,.slice x.fA x.fn x.fc,.slice x.mA x.mn x.mc,.slice x.aA x.an x.ac],.int .i64 c.a] wb.drew (TextPost T wb.drew)):=bx (by
   rw[HN.out];have h9:=Y1r x c.a wb.drew (Ji.out.up (below_drewN (Below.refl _ _) 1));have e9:(.agg (imC x):Value) = .agg #[.int .i64 x.minor,.int .i64 x.major,.slice (some ad) x.pn x.pc,.int .i64 x.access,.int .i64 x.this,.int .i64 x.super,.slice x.iA x.i_n x.ic,.slice x.fA x.fn x.fc,.slice x.mA x.mn x.mc,.slice x.aA x.an x.ac]:=by unfold imC;rw[G1.out]
   rw[e9]at h9;exact h9)
  have hS5:(fun w'=>w'.cell? ⟨B,0,none⟩=some (.int .i64 x.minor)∧w'.cell? ⟨B,1,none⟩=some (.int .i64 x.major)∧w'.cell? ⟨B,2,none⟩=some (.slice (some ad) x.pn x.pc)∧w'.cell? ⟨B,3,none⟩=some (.int .i64 x.access)∧w'.cell? ⟨B,4,none⟩=some (.int .i64 x.this)∧w'.cell? ⟨B,5,none⟩=some (.int .i64 x.super)∧w'.cell? ⟨B,6,none⟩=some (.slice x.iA x.i_n x.ic)∧w'.cell? ⟨B,7,none⟩=some (.slice x.fA x.fn x.fc)∧w'.cell? ⟨B,8,none⟩=some (.slice x.mA x.mn x.mc)∧w'.cell? ⟨B,9,none⟩=some (.slice x.aA x.an x.ac)∧w'.cell? ⟨(ad.add (k*5)).block,(ad.add (k*5)).off+1,none⟩=some (.int .i64 c.a)) wb:=⟨f0,f1,f2,f3,f4,f5,f6,f7,f8,f9,p1⟩;have Cw:Bx ((ad.add (k*5)).block<wb.heap.size):=bx (by rw[blk_add];assumption);clear HT HN p0 p2 p3 p4
  go_region_held3 (fun w'=>w'.cell? ⟨B,0,none⟩=some (.int .i64 x.minor)∧w'.cell? ⟨B,1,none⟩=some (.int .i64 x.major)∧w'.cell? ⟨B,2,none⟩=some (.slice (some ad) x.pn x.pc)∧w'.cell? ⟨B,3,none⟩=some (.int .i64 x.access)∧w'.cell? ⟨B,4,none⟩=some (.int .i64 x.this)∧w'.cell? ⟨B,5,none⟩=some (.int .i64 x.super)∧w'.cell? ⟨B,6,none⟩=some (.slice x.iA x.i_n x.ic)∧w'.cell? ⟨B,7,none⟩=some (.slice x.fA x.fn x.fc)∧w'.cell? ⟨B,8,none⟩=some (.slice x.mA x.mn x.mc)∧w'.cell? ⟨B,9,none⟩=some (.slice x.aA x.an x.ac)∧w'.cell? ⟨(ad.add (k*5)).block,(ad.add (k*5)).off+1,none⟩=some (.int .i64 c.a)) (first | exact hS5 | exact hS6) ((go_at_call 71;refine Vi.out.mono ?_;rintro e w6 ⟨rfl,hb6⟩;have hK6:=(Yi.out.drewN 1).below hb6 (Yi.out.drewN 1).lt;have Yl:=bx hb6;have hS6:(fun w'=>w'.cell? ⟨B,0,none⟩=some (.int .i64 x.minor)∧w'.cell? ⟨B,1,none⟩=some (.int .i64 x.major)∧w'.cell? ⟨B,2,none⟩=some (.slice (some ad) x.pn x.pc)∧w'.cell? ⟨B,3,none⟩=some (.int .i64 x.access)∧w'.cell? ⟨B,4,none⟩=some (.int .i64 x.this)∧w'.cell? ⟨B,5,none⟩=some (.int .i64 x.super)∧w'.cell? ⟨B,6,none⟩=some (.slice x.iA x.i_n x.ic)∧w'.cell? ⟨B,7,none⟩=some (.slice x.fA x.fn x.fc)∧w'.cell? ⟨B,8,none⟩=some (.slice x.mA x.mn x.mc)∧w'.cell? ⟨B,9,none⟩=some (.slice x.aA x.an x.ac)∧w'.cell? ⟨(ad.add (k*5)).block,(ad.add (k*5)).off+1,none⟩=some (.int .i64 c.a)) w6:=⟨hK6.im0 Yt.out,hK6.im1 Yt.out,(hK6.im2 Yt.out).trans (by rw[G1.out]),hK6.im3 Yt.out,hK6.im4 Yt.out,hK6.im5 Yt.out,hK6.im6 Yt.out,hK6.im7 Yt.out,hK6.im8 Yt.out,hK6.im9 Yt.out,(hb6.cell (p:=⟨(ad.add (k*5)).block,(ad.add (k*5)).off+1,none⟩) Cw.out).trans p1⟩))
  all_goals (
   go_wp2;go_ret2;exact⟨rfl,(below_drewN Qq.out 1).trans (Yl.out.mono Qq.out.size)⟩)
open Go.RowKit
def brkC:List PanicEntry:=[{ v := .iface 67 (.agg #[]),recovered:=false }]
theorem Y7o (w:World):Calls Tryd.prog 39 #[.bool false] w fun e w'=>e = .panicked brkC∧w'=w:=by
 go_enter Tryd.func39,Tryd.ntmps39
 go_wp2;exact⟨rfl,rfl,rfl⟩
theorem Y7r (w:World):Calls Tryd.prog 39 #[.bool true] w fun e w'=>e = .returned (.tuple #[])∧w'=w:=by
 go_enter Tryd.func39,Tryd.ntmps39
 go_wp2
 go_end0
 exact⟨rfl,rfl⟩
def KlP {α:Type} (o:Option α) (F:α→Ending→World→Prop) (w:World) (e:Ending) (w':World):Prop:=
 (match o with
  | some x=>F x e w'
  | none=>e = .panicked brkC)∧Below w.heap.size w w'
def strP (s:List UInt8) (e:Ending) (_:World):Prop:=e = .returned (.string ⟨s.toArray⟩)
def vwA (x:ImE) (b:Bool):Array Value:=#[.int .i64 x.minor,.int .i64 x.major,.slice x.pA x.pn x.pc,.int .i64 x.access,.int .i64 x.this,.int .i64 x.super,.slice x.iA x.i_n x.ic,.slice x.fA x.fn x.fc,.slice x.mA x.mn x.mc,.slice x.aA x.an x.ac,.bool b]
structure Vw (w:World) (gv:Nat) (x:ImE) (b:Bool):Prop where
 box:Bk w gv 71 (vwA x b)
 im:RIm w gv x
 lt:gv<w.heap.size
 txt:∀c∈x.pool,c.text.length≤2000000
 mx:0<gv∧∃m,w.cell? ⟨0,0,none⟩=some (.int .i64 m)
theorem Vw.below {w w':World} {gv:Nat} {x:ImE} {b:Bool} (h:Vw w gv x b) (hb:Below w.heap.size w w'):Vw w' gv x b:=
 ⟨h.box.below hb h.lt,h.im.below hb (Z12 h.lt),Z07 h.lt hb.size,h.txt,h.mx.1,by obtain⟨m,hm⟩:=h.mx.2;exact⟨m,(hb.cell (p:=⟨0,0,none⟩) (Nat.lt_trans h.mx.1 h.lt)).trans hm⟩⟩
theorem W8w (x:ImE) (i:Int):txtK x.p.pool i=if (textP x.p i).2=true then some (textP x.p i).1 else none:=by
 unfold txtK textP;have e:tagK x.p.pool i=tagP x.p.pool i:=rfl;rw[e]
 split
 ·cases hc:x.p.pool[i.toNat]? with
  | none=>rfl
  | some c=>rfl
 ·rfl
theorem W6a (x:ImE) (i:Int):clsK x.p.pool i=if (classP x.p i).2=true then some (classP x.p i).1 else none:=by
 unfold clsK classP;have e:tagK x.p.pool i=tagP x.p.pool i:=rfl;rw[e]
 split
 ·cases hc:x.p.pool[i.toNat]? with
  | none=>rfl
  | some c=>exact W8w x c.a
 ·rfl
theorem RIm.top9 {w:World} {B:Nat} {x:ImE} (h:RIm w B x) (hB:B≤w.heap.size):RIm w w.heap.size x:=h.more hB
theorem X3a (x:ImE) (b:Bool) (gv:Nat) (i:Int) (w:World) (hv:Vw w gv x b) :
  Calls Tryd.prog 56 #[.pointer (some ⟨gv,0,none⟩),.int .i64 i] w (KlP (txtK x.p.pool i) strP w):=by
 have HT:=bx (Y1r x i w (hv.im.top9 (Z12 hv.lt)));have hR:=W8w x i;obtain⟨R,hRR⟩:∃R,txtK x.p.pool i=R:=⟨_,rfl⟩;obtain⟨⟨s,q⟩,hq⟩:∃r,textP x.p i=r:=⟨_,rfl⟩;rw[hq]at HT;rw[hRR,hq]at hR;rw[hRR];dsimp only at hR;have HR:Bx ((q=false→R=none)∧(q=true→R=some s)):=bx ⟨fun e=>by rw[hR,if_neg (by rw[e];decide)],fun e=>by rw[hR,if_pos e]⟩;have hg:=hv.lt;have c0:=hv.box.cell 0;have c1:=hv.box.cell 1;have c2:=hv.box.cell 2;have c3:=hv.box.cell 3;have c4:=hv.box.cell 4;have c5:=hv.box.cell 5;have c6:=hv.box.cell 6;have c7:=hv.box.cell 7;have c8:=hv.box.cell 8;have c9:=hv.box.cell 9;simp only[vwA,Z19,List.getElem?_cons_zero,Z21]at c0 c1 c2 c3 c4 c5 c6 c7 c8 c9;clear hv hq hR hRR
 go_enter Tryd.func56,Tryd.ntmps56
 go_wp2_with fail
 refine HT.out.mono ?_;rintro e w1 ⟨rfl,hb1⟩;have Zl:=bx hb1;clear hb1 HT c0 c1 c2 c3 c4 c5 c6 c7 c8 c9;cases q with
 | false=>
  go_wp2_with fail
  refine(Y7o w1).mono ?_
  rintro e w2 ⟨rfl,hw⟩;obtain rfl:w1=w2:=hw.symm;go_wp2;rw[HR.out.1 (by first | trivial | rfl)];exact⟨rfl,rfl,Zl.out⟩
 | true=>
  go_wp2_with fail
  refine(Y7r w1).mono ?_
  rintro e w2 ⟨rfl,hw⟩;obtain rfl:w1=w2:=hw.symm;go_wp2;go_ret;rw[HR.out.2 (by first | trivial | rfl)];exact⟨rfl,Zl.out⟩
theorem Y4k (x:ImE) (b:Bool) (gv:Nat) (i:Int) (w:World) (hv:Vw w gv x b) :
  Calls Tryd.prog 61 #[.pointer (some ⟨gv,0,none⟩),.int .i64 i] w (KlP (clsK x.p.pool i) strP w):=by
 have HT:=bx (X8o x i w (hv.im.top9 (Z12 hv.lt)));have hR:=W6a x i;obtain⟨R,hRR⟩:∃R,clsK x.p.pool i=R:=⟨_,rfl⟩;obtain⟨⟨s,q⟩,hq⟩:∃r,classP x.p i=r:=⟨_,rfl⟩;rw[hq]at HT;rw[hRR,hq]at hR;rw[hRR];dsimp only at hR;have HR:Bx ((q=false→R=none)∧(q=true→R=some s)):=bx ⟨fun e=>by rw[hR,if_neg (by rw[e];decide)],fun e=>by rw[hR,if_pos e]⟩;have hg:=hv.lt;have c0:=hv.box.cell 0;have c1:=hv.box.cell 1;have c2:=hv.box.cell 2;have c3:=hv.box.cell 3;have c4:=hv.box.cell 4;have c5:=hv.box.cell 5;have c6:=hv.box.cell 6;have c7:=hv.box.cell 7;have c8:=hv.box.cell 8;have c9:=hv.box.cell 9;simp only[vwA,Z19,List.getElem?_cons_zero,Z21]at c0 c1 c2 c3 c4 c5 c6 c7 c8 c9;clear hv hq hR hRR
 go_enter Tryd.func61,Tryd.ntmps61
 go_wp2_with fail
 refine HT.out.mono ?_;rintro e w1 ⟨rfl,hb1⟩;have Zl:=bx hb1;clear hb1 HT c0 c1 c2 c3 c4 c5 c6 c7 c8 c9;cases q with
 | false=>
  go_wp2_with fail
  refine(Y7o w1).mono ?_
  rintro e w2 ⟨rfl,hw⟩;obtain rfl:w1=w2:=hw.symm;go_wp2;rw[HR.out.1 (by first | trivial | rfl)];exact⟨rfl,rfl,Zl.out⟩
 | true=>
  go_wp2_with fail
  refine(Y7r w1).mono ?_
  rintro e w2 ⟨rfl,hw⟩;obtain rfl:w1=w2:=hw.symm;go_wp2;go_ret;rw[HR.out.2 (by first | trivial | rfl)];exact⟨rfl,Zl.out⟩
theorem Y6j {α β:Type} {o:Option α} {f:α→Option β} {y:β} (h:o.bind f=some y):∃x,o=some x∧f x=some y:=Option.bind_eq_some_iff.1 h
theorem X4g {x:ImE} {i:Int} {s:List UInt8} {k:Nat} (ht:∀c∈x.pool,c.text.length≤k) (h:clsK x.p.pool i=some s):s.length≤k:=by
 unfold clsK at h
 split at h
 ·obtain⟨c,_,hs⟩:=Y6j h
  unfold txtK at hs
  split at hs
  ·obtain⟨c2,hc2,e⟩:=Option.map_eq_some_iff.1 hs
   rw[←e];exact ht c2 (Z16 hc2)
  ·cases hs
 ·cases h
theorem X8c (x:ImE) (b:Bool) (gv:Nat) (i:Int) (w:World) (hv:Vw w gv x b) :
  Calls Tryd.prog 38 #[.pointer (some ⟨gv,0,none⟩),.int .i64 i] w (KlP (plainK x.p.pool i) strP w):=by
 have HC:=bx (Y4k x b gv i w hv);have HV:=bx hv;obtain⟨R,hR⟩:∃R,plainK x.p.pool i=R:=⟨_,rfl⟩;rw[hR];unfold plainK at hR;obtain⟨o,ho⟩:∃o,clsK x.p.pool i=o:=⟨_,rfl⟩;have hsl:∀s,o=some s→s.length≤2000000:=fun s e=>X4g hv.txt (ho.trans e);rw[ho]at HC hR;have HR:=bx hR;have Vy:=bx hsl;clear hv hR ho hsl
 go_enter Tryd.func38,Tryd.ntmps38
 go_wp2_with fail
 refine HC.out.mono ?_;intro e w1 hp;obtain⟨hp,hb1⟩:=hp;have Zl:=bx hb1;have Jl:=bx (HV.out.below hb1);clear hb1 HC HV;cases o with
 | none=>have hp:e = .panicked brkC:=hp;subst hp;have HN:Bx (R=none):=bx (by rw[←HR.out];rfl);go_wp2;rw[HN.out];exact⟨rfl,rfl,Zl.out⟩
 | some s=>
  have hp:e = .returned (.string ⟨s.toArray⟩):=hp;subst hp;obtain⟨sn,hsn⟩:∃sn:ByteArray,(⟨s.toArray⟩:ByteArray)=sn:=⟨_,rfl⟩;have hsz:sn.size≤2000000:=by rw[←hsn];have:=Vy.out s rfl;show s.toArray.size≤_;simpa using this
  have hst:sn.data.toList=s:=(by rw[←hsn]);obtain⟨m,hm⟩:=Jl.out.mx.2;have Qr:=bx (Y6k sn m w1 (by omega) hm);obtain⟨q,hq⟩:∃q,(decide (sn.size≤58)&&classGo sn.data.toList 0)=q:=⟨_,rfl⟩;rw[hq]at Qr;have hcl:classOk s=q:=by rw[←hq,←hst];rfl
  have Bt:=bx hcl;have B4:=bx hsn;rw[hsn];clear hsz hst hm hq hcl hsn;go_wp2_with fail
  refine Qr.out.mono ?_;rintro e w2 ⟨rfl,hb2⟩;have Wm:=bx (Zl.out.trans (hb2.mono Zl.out.size));clear hb2 Qr;cases q with
  | false=>
   have HN:Bx (R=none):=bx (by rw[←HR.out];show gdK (classOk s) (some s)=none;rw[Bt.out];rfl);go_wp2_with fail
   refine(Y7o w2).mono ?_
   rintro e w3 ⟨rfl,hw⟩;obtain rfl:w2=w3:=hw.symm;go_wp2;rw[HN.out];exact⟨rfl,rfl,Wm.out⟩
  | true=>
   have HN:Bx (R=some s):=bx (by rw[←HR.out];show gdK (classOk s) (some s)=_;rw[Bt.out];rfl);go_wp2_with fail
   refine(Y7r w2).mono ?_
   rintro e w3 ⟨rfl,hw⟩;obtain rfl:w2=w3:=hw.symm;go_wp2;go_ret;rw[HN.out];exact⟨by rw[←B4.out];rfl,Wm.out⟩
open Go.RowKit
def OneR (g k:Nat):Prop:=k=g
structure Krd (w:World) (gk gr gv lo:Nat) (l:List UInt8) (p:Nat) (bad:Bool) (x:ImE) (b:Bool):Prop where
 box:Bk w gk 157 #[.pointer (some ⟨gr,0,none⟩),.pointer (some ⟨gv,0,none⟩)]
 rd:RdrL w gr lo l p bad
 vw:Vw w gv x b
 ord:gv<gr∧gr<gk
 low:lo≤gr
section
variable {w w':World} {gk gr gv lo:Nat} {l:List UInt8} {p p':Nat} {bad bad':Bool} {x:ImE} {b:Bool}
theorem X0s {g:Nat} (h:RdrL w g lo l p bad) (hk:∀k,k≤g→w'.heap[k]? = w.heap[k]?):RdrL w' g lo l p bad:=by
 obtain⟨A,c,hA,h1,h2,r⟩:=h;exact⟨A,c,hA,(hk g (Z00 _)).trans h1,Rd.keep h2 (fun q hq=>Y9c (hk q.block (by omega))),r⟩
theorem Krd.below (h:Krd w gk gr gv lo l p bad x b) (hb:Below w.heap.size w w'):Krd w' gk gr gv lo l p bad x b:=
 ⟨h.box.below hb h.box.lt,h.rd.below hb,h.vw.below hb,h.ord,h.low⟩
theorem Krd.lt (h:Krd w gk gr gv lo l p bad x b):gk<w.heap.size∧gr<w.heap.size∧gv<w.heap.size:=by
 have:=h.box.lt
 have:=h.ord
 omega
theorem Krd.on (h:Krd w gk gr gv lo l p bad x b) (hr:RdrL w' gr lo l p' bad') (c:Ch w w' (OneR gr)):Krd w' gk gr gv lo l p' bad' x b:=by
 have hl:=h.lt;have ho:=h.ord;have hmx:∃m,w'.cell? ⟨0,0,none⟩=some (.int .i64 m):=by obtain⟨m,hm⟩:=h.vw.mx.2;exact⟨m,(Y9c (p:=⟨0,0,none⟩) (c.same _ (Nat.lt_trans h.vw.mx.1 h.vw.lt) (fun e=>by have e:0=gr:=e;have:=h.vw.mx.1;omega))).trans hm⟩
 refine⟨h.box.ch c (fun e=>by have e:gk=gr:=e;omega),hr,⟨h.vw.box.ch c (fun e=>by have e:gv=gr:=e;omega),?_,Z07 h.vw.lt c.size,h.vw.txt,h.vw.mx.1,hmx⟩,ho,h.low⟩;exact h.vw.im.below (B':=gv) (c.below (Z12 h.vw.lt) (fun k hk e=>by have e:k=gr:=e;omega)) (Z00 _)
theorem Krd.far {U:Nat→Prop} (h:Krd w gk gr gv lo l p bad x b) (c:Ch w w' U) (hU:∀k,k≤gr∨k=gk→¬U k):Krd w' gk gr gv lo l p bad x b:=by
 have hl:=h.lt;have ho:=h.ord;have hmx:∃m,w'.cell? ⟨0,0,none⟩=some (.int .i64 m):=by obtain⟨m,hm⟩:=h.vw.mx.2;exact⟨m,(Y9c (p:=⟨0,0,none⟩) (c.same _ (Nat.lt_trans h.vw.mx.1 h.vw.lt) (hU _ (.inl (Z12 (Nat.lt_trans h.vw.mx.1 ho.1)))))).trans hm⟩
 refine⟨h.box.ch c (hU _ (.inr rfl)),X0s h.rd (fun k hk=>c.same k (by omega) (hU _ (.inl hk))),⟨h.vw.box.ch c (hU _ (by omega)),?_,Z07 h.vw.lt c.size,h.vw.txt,h.vw.mx.1,hmx⟩,ho,h.low⟩;exact h.vw.im.below (B':=gv) (c.below (Z12 h.vw.lt) (fun k hk=>hU _ (by omega))) (Z00 _)
theorem Y2c (ad:Addr) (i:Nat):(ad.add i).block=ad.block:=by unfold Addr.add;split <;> rfl
theorem RdrL.mid {gm:Nat} (h:RdrL w gr lo l p bad) (c:Ch w w' (OneR gm)) (h1:gm<lo) (h2:lo≤gr):RdrL w' gr lo l p bad:=by
 obtain⟨A,c',hA,hB,hR,r⟩:=h;have hlt:=hB.lt;refine⟨A,c',hA,hB.ch c (fun e=>by have e:gr=gm:=e;omega),fun hn=>?_,r⟩;obtain⟨ad,e,hx,hc⟩:=hR hn;refine⟨ad,e,hx,fun i u hu=>(Y9c ?_).trans (hc i u hu)⟩;rw[Y2c]
 exact c.same _ (by omega) (fun e2=>by
  have e2:ad.block=gm:=e2
  have:=hA (fun e3=>hn (by rw[e3];rfl)) ad e
  omega)
theorem Krd.mid {gm:Nat} (h:Krd w gk gr gv lo l p bad x b) (c:Ch w w' (OneR gm)) (h0:gv<gm) (h1:gm<lo):Krd w' gk gr gv lo l p bad x b:=by
 have hl:=h.lt;have ho:=h.ord;have hlw:=h.low;have hmx:∃m,w'.cell? ⟨0,0,none⟩=some (.int .i64 m):=by obtain⟨m,hm⟩:=h.vw.mx.2;exact⟨m,(Y9c (p:=⟨0,0,none⟩) (c.same _ (Nat.lt_trans h.vw.mx.1 h.vw.lt) (fun e=>by have e:0=gm:=e;have:=h.vw.mx.1;omega))).trans hm⟩
 refine⟨h.box.ch c (fun e=>by have e:gk=gm:=e;omega),h.rd.mid c h1 h.low,⟨h.vw.box.ch c (fun e=>by have e:gv=gm:=e;omega),?_,Z07 h.vw.lt c.size,h.vw.txt,h.vw.mx.1,hmx⟩,ho,h.low⟩;exact h.vw.im.below (B':=gv) (c.below (Z12 h.vw.lt) (fun k hk e=>by have e:k=gm:=e;omega)) (Z00 _)
theorem Y4g {g:Nat} (h:w.grownBy w' (some g)):Ch w w' (OneR g):=Ch.of_grown h (fun k e=>by injection e with e;exact e.symm)
end
def KrP {α:Type} (o:Option (α×Nat)) (F:α→Ending→World→Prop) (gk gr gv lo:Nat) (l:List UInt8) (x:ImE) (b:Bool) (w:World) (e:Ending) (w':World):Prop:=
 (match o with
  | some (a,p')=>F a e w'∧Krd w' gk gr gv lo l p' false x b
  | none=>e = .panicked brkC)∧Ch w w' (OneR gr)
def natP (v:Nat) (e:Ending) (_:World):Prop:=e = .returned (.int .i64 (v:Int))
theorem X1e (n most:Int) (gk gr gv lo:Nat) (l:List UInt8) (p:Nat) (x:ImE) (b:Bool) (w:World) (h:Krd w gk gr gv lo l p true x b) :
  Calls Tryd.prog 79 #[.pointer (some ⟨gk,0,none⟩),.int .i64 n,.int .i64 most] w fun e w'=>e = .panicked brkC∧Ch w w' (OneR gr):=by
 have HK:=bx h;have HN:=bx (X9y gr lo l p true n w h.rd);have c0:=h.box.cell 0;have hlt:=h.box.lt;simp only[Z19,List.getElem?_cons_zero]at c0;clear h
 go_enter Tryd.func79,Tryd.ntmps79
 go_wp2_with fail
 refine HN.out.mono ?_;rintro e w1 ⟨rfl,hr,hg⟩;have hok:okN l p true n=false:=(by simp [okN]);rw[hok]at hr;have hv:numV l p true n=0:=by unfold numV;rw[hok];rfl
 rw[hv];have HC:=bx (Y4g hg);have Yz:=bx (HK.out.on hr (Y4g hg));clear hr hg hok hv HN c0;have c0:w1.cell? ⟨gk,0,none⟩=some (.pointer (some ⟨gr,0,none⟩)):=(Yz.out.box.cell 0).trans rfl;go_wp2_with fail
 refine(Y8d gr lo l _ _ w1 Yz.out.rd).mono ?_
 rintro e w2 ⟨rfl,hw⟩;obtain rfl:w1=w2:=hw;go_wp2_with fail
 refine(Y7o w1).mono ?_
 rintro e w2 ⟨rfl,hw⟩;obtain rfl:w1=w2:=hw.symm;go_wp2;exact⟨rfl,rfl,HC.out⟩
theorem Y5r (n most:Nat) (gk gr gv lo:Nat) (l:List UInt8) (p:Nat) (x:ImE) (b:Bool) (w:World) (h:Krd w gk gr gv lo l p false x b) (hn:1≤n∧n≤4) (hm:most≤4294967296) :
  Calls Tryd.prog 79 #[.pointer (some ⟨gk,0,none⟩),.int .i64 (n:Int),.int .i64 (most:Int)] w (KrP (numK n most l p) natP gk gr gv lo l x b w):=by
 have HK:=bx h;have HN:=bx (X9y gr lo l p false n w h.rd);have c0:=h.box.cell 0;have hlt:=h.box.lt;have hpl:p≤l.length:=by obtain⟨_,_,_,_,_,_,_,_,q⟩:=h.rd;exact q
 simp only[Z19,List.getElem?_cons_zero]at c0;obtain⟨R,hR⟩:∃R,numK n most l p=R:=⟨_,rfl⟩;rw[hR];unfold numK at hR;have HR:=bx hR;have Wi:Bx (1≤n∧n≤4∧most≤4294967296):=bx ⟨hn.1,hn.2,hm⟩;have We:=bx hpl;clear h hR hn hm hpl
 go_enter Tryd.func79,Tryd.ntmps79
 go_wp2_with fail
 refine HN.out.mono ?_;rintro e w1 ⟨rfl,hr,hg⟩;have HC:=bx (Y4g hg);clear c0 HN;by_cases hs:p+n≤l.length
 ·have hok:okN l p false (n:Int)=true:=by have:=Wi.out;simp [okN];omega
  rw[hok]at hr;have hpa:numAt l p false (n:Int)=p+n:=by unfold numAt;rw[hok,if_pos rfl,Z30]
  rw[hpa]at hr;obtain⟨v,hv⟩:∃v,beN ((l.drop p).take n)=v:=⟨_,rfl⟩
  have hv4:v<4294967296:=by
   have h1:=X9x ((l.drop p).take n);have h2:((l.drop p).take n).length≤4:=by rw[Z29];have:=Wi.out;omega
   have h3:=Nat.pow_le_pow_right (n:=256) (by omega) h2;rw[hv]at h1;omega
  have hnv:numV l p false (n:Int)=(v:Int):=by unfold numV;rw[hok,if_pos rfl,Z30,hv];unfold wrap64;omega
  rw[hnv];have Wx:=HR.out;rw[hv]at Wx;have Zi:=bx Wx;have Yz:=bx (HK.out.on hr (Y4g hg));have hwv:IntKind.i64.wrap (v:Int)=(v:Int):=IntWalk.i64_in _ (by omega);clear hr hg hok hpa hnv hv Wx HR HK;have c0:w1.cell? ⟨gk,0,none⟩=some (.pointer (some ⟨gr,0,none⟩)):=(Yz.out.box.cell 0).trans rfl;have hlt1:gk<w1.heap.size:=Yz.out.box.lt;by_cases hvm:v≤most
  ·have hI:(v:Int)≤(most:Int):=by omega
   have hId:decide (v≤most)=true:=Z47 hvm;have HX:Bx (R=some (v,p+n)):=bx (by have:=Zi.out;rw[if_pos ⟨hs,hvm⟩]at this;exact this.symm);clear Zi hs hvm;go_wp2_with fail
   refine(Y8d gr lo l _ _ w1 Yz.out.rd).mono ?_
   rintro e w2 ⟨rfl,hw⟩;obtain rfl:w1=w2:=hw;go_wp2_with fail
   refine(Y7r w1).mono ?_
   rintro e w2 ⟨rfl,hw⟩;obtain rfl:w1=w2:=hw.symm;go_wp2;go_ret;rw[HX.out];exact⟨⟨rfl,Yz.out⟩,HC.out⟩
  ·have hI:¬(v:Int)≤(most:Int):=by omega
   have hId:decide (v≤most)=false:=Z48 hvm;have HX:Bx (R=none):=bx (by have:=Zi.out;rw[if_neg (fun e=>hvm e.2)]at this;exact this.symm);clear Zi hs hvm;go_wp2_with fail
   refine(Y8d gr lo l _ _ w1 Yz.out.rd).mono ?_
   rintro e w2 ⟨rfl,hw⟩;obtain rfl:w1=w2:=hw;go_wp2_with fail
   refine(Y7o w1).mono ?_
   rintro e w2 ⟨rfl,hw⟩;obtain rfl:w1=w2:=hw.symm;go_wp2;rw[HX.out];exact⟨rfl,rfl,HC.out⟩
 ·have hok:okN l p false (n:Int)=false:=by have:=Wi.out;simp [okN];omega
  rw[hok]at hr;have hnv:numV l p false (n:Int)=0:=by unfold numV;rw[hok];rfl
  rw[hnv];have HX:Bx (R=none):=bx (by have:=HR.out;rw[if_neg (fun e=>hs e.1)]at this;exact this.symm);have Yz:=bx (HK.out.on hr (Y4g hg));clear hr hg hok hnv HR HK hs;have c0:w1.cell? ⟨gk,0,none⟩=some (.pointer (some ⟨gr,0,none⟩)):=(Yz.out.box.cell 0).trans rfl;have hlt1:gk<w1.heap.size:=Yz.out.box.lt;go_wp2_with fail
  refine(Y8d gr lo l _ _ w1 Yz.out.rd).mono ?_
  rintro e w2 ⟨rfl,hw⟩;obtain rfl:w1=w2:=hw;go_wp2_with fail
  refine(Y7o w1).mono ?_
  rintro e w2 ⟨rfl,hw⟩;obtain rfl:w1=w2:=hw.symm;go_wp2;rw[HX.out];exact⟨rfl,rfl,HC.out⟩
open Go.RowKit
theorem Y2l (A:Option Addr) (n c:Nat) (l:List UInt8) (gv:Nat) (x:ImE) (b:Bool) (w:World) (hv:Vw w gv x b) (hn:l.length=n) (hl:(n:Int)≤140737488355328) (hr:RB w w.heap.size A l) :
  Calls Tryd.prog 66 #[.pointer (some ⟨gv,0,none⟩),.slice A n c] w fun e w'=>∃gk gr,e = .returned (.pointer (some ⟨gk,0,none⟩))∧w.heap.size≤gr∧Krd w' gk gr gv w.heap.size l 0 false x b∧Below w.heap.size w w':=by
 have HN:=bx (X1b A n c w l hn hl hr);have HV:=bx hv;clear hv hn hl hr
 go_enter Tryd.func66,Tryd.ntmps66
 go_wp2_with fail
 refine HN.out.mono ?_;rintro e w1 ⟨g,rfl,hg,hrd,hb1⟩;have HG:=bx hg;have Jh:=bx hrd;have Zl:=bx hb1;clear hg hrd hb1 HN;go_wp2;go_ret;have hb2:Below w1.heap.size w1 (w1.alloc (.cells #[.pointer (some ⟨g,0,none⟩),.pointer (some ⟨gv,0,none⟩)] 157)):=Y9z (Below.refl _ _) (Z00 _) _;have hlt:=HV.out.lt;have hg1:g<w1.heap.size:=by obtain⟨_,_,_,hB,_⟩:=Jh.out;exact hB.lt
 exact⟨_,g,rfl,HG.out,⟨Bk.new _ _ _,Jh.out.below hb2,(HV.out.below Zl.out).below hb2,⟨by have:=HG.out;omega,hg1⟩,HG.out⟩,Zl.out.trans (hb2.mono Zl.out.size)⟩
def KendP (c:Bool) (w:World) (e:Ending) (w':World):Prop:=e=(if c=true then .returned (.tuple #[]) else .panicked brkC)∧Below w.heap.size w w'
theorem X0u (gk gr gv lo:Nat) (l:List UInt8) (p:Nat) (bad:Bool) (x:ImE) (b:Bool) (w:World) (h:Krd w gk gr gv lo l p bad x b) :
  Calls Tryd.prog 82 #[.pointer (some ⟨gk,0,none⟩)] w (KendP (!bad&&decide (p=l.length)) w):=by
 have HK:=bx h;have c0:=h.box.cell 0;have hlt:=h.box.lt;have hpl:p≤l.length:=by obtain⟨_,_,_,_,_,_,_,_,q⟩:=h.rd;exact q
 simp only[Z19,List.getElem?_cons_zero]at c0;have We:=bx hpl;clear h hpl;cases bad with
 | true=>
  rw[show (!true&&decide (p=l.length))=false from rfl]
  go_enter Tryd.func82,Tryd.ntmps82
  go_wp2_with fail
  refine(Y8d gr lo l _ _ w HK.out.rd).mono ?_
  rintro e w2 ⟨rfl,hw⟩;obtain rfl:w=w2:=hw;go_wp2_with fail
  refine(Y7o w).mono ?_
  rintro e w2 ⟨rfl,hw⟩;obtain rfl:w=w2:=hw.symm;go_wp2;exact⟨rfl,rfl,Below.refl _ _⟩
 | false=>
  by_cases hp:p=l.length
  ·rw[show (!false&&decide (p=l.length))=true by rw[Z47 hp];rfl]
   have hI:((l.length:Int)-(p:Int)==0)=true:=by simp;omega
   have HI:=bx hI;clear hp hI
   go_enter Tryd.func82,Tryd.ntmps82
   go_wp2_with fail
   refine(Y8d gr lo l _ _ w HK.out.rd).mono ?_
   rintro e w2 ⟨rfl,hw⟩;obtain rfl:w=w2:=hw;go_wp2_with fail
   refine(Y1o gr lo l _ _ w HK.out.rd).mono ?_
   rintro e w2 ⟨rfl,m,rfl⟩;have hI:=HI.out;go_wp2_with fail
   refine(Y7r _).mono ?_
   rintro e w2 ⟨rfl,hw⟩;subst hw;go_wp2
   go_end0
   exact⟨rfl,below_drewN (Below.refl _ _) _⟩
  ·rw[show (!false&&decide (p=l.length))=false by rw[Z48 hp];rfl]
   have hI:((l.length:Int)-(p:Int)==0)=false:=by simp;omega
   have HI:=bx hI;clear hp hI
   go_enter Tryd.func82,Tryd.ntmps82
   go_wp2_with fail
   refine(Y8d gr lo l _ _ w HK.out.rd).mono ?_
   rintro e w2 ⟨rfl,hw⟩;obtain rfl:w=w2:=hw;go_wp2_with fail
   refine(Y1o gr lo l _ _ w HK.out.rd).mono ?_
   rintro e w2 ⟨rfl,m,rfl⟩;have hI:=HI.out;go_wp2_with fail
   refine(Y7o _).mono ?_
   rintro e w2 ⟨rfl,hw⟩;subst hw;go_wp2;exact⟨rfl,rfl,below_drewN (Below.refl _ _) _⟩
open Go.RowKit
set_option linter.unusedSimpArgs false
theorem vtTy:ETy Tryd.prog 75 91 (.agg #[.int .i64 0,.string ⟨#[]⟩,.int .i64 0]) 3 32:=⟨Tryd.underlying75,info_parts (by kernel_rfl),rfl,by decide⟩
theorem Ch.one {w:World} {g i:Nat} {u:Value}:Ch w (w.setCell ⟨g,i,none⟩ u) (OneR g):=(Ch.refl w).setCell (S:=OneR g) (p:=⟨g,i,none⟩) (fun _=>rfl) u
theorem Y8r {w w':World} {g:Nat} (c:Ch w w' (OneR g)):w.grownBy w' (some g):=⟨c.os,c.tape,c.output,c.size,fun k hk hne=>c.same k hk (fun e=>hne (by rw[show k=g from e]))⟩
theorem OwS.one {α:Type} {fC:α→List Value} {sz base g:Nat} {T:TypeId} {v:Value} {L:List α} {w w':World} (h:OwS fC sz w base T v L) (c:Ch w w' (OneR g)) (hg:g<base):OwS fC sz w' base T v L:=
 h.kept (Y8r c) (by
  cases hv:v.ownBlock with
  | none=>exact .inl rfl
  | some b=>exact .inr (fun e=>by injection e with e;have:=(h.blk hv).1;omega))
theorem Ch.of_low {B:Nat} {a b:World} (h:Below B a b):Ch a b (fun k=>B≤k):=⟨h.os,h.tape,h.output,h.size,fun k _ hn=>h.block k (Nat.lt_of_not_le hn)⟩
def RepK {α:Type} (A:Kr α) (l:List UInt8) (p n j:Nat) (acc:List α) (p1:Nat):Prop:=repK A n l p=(repK A (n-j) l p1).map fun r=>(acc++r.1,r.2)
theorem RepK.start {α:Type} (A:Kr α) (l:List UInt8) (p n:Nat):RepK A l p n 0 [] p:=by
 unfold RepK;rw[Nat.sub_zero];cases repK A n l p with
 | none=>rfl
 | some r=>rfl
theorem RepK.next {α:Type} {A:Kr α} {l:List UInt8} {p n j p1 p2:Nat} {acc:List α} {y:α} (h:RepK A l p n j acc p1) (hj:j<n) (hy:A l p1=some (y,p2)):RepK A l p n (j+1) (acc++[y]) p2:=by
 unfold RepK at h ⊢;rw[h,show n-j=(n-(j+1))+1 by omega];show (bndK A (fun x=>bndK (repK A (n-(j+1))) fun r=>retK (x::r)) l p1).map _=_;unfold bndK;rw[hy];show ((repK A (n-(j+1)) l p2).bind _).map _=_;cases repK A (n-(j+1)) l p2 with
 | none=>rfl
 | some r=>show some _=some _;simp
theorem RepK.stop {α:Type} {A:Kr α} {l:List UInt8} {p n j p1:Nat} {acc:List α} (h:RepK A l p n j acc p1) (hj:j<n) (hy:A l p1=none):repK A n l p=none:=by
 unfold RepK at h;rw[h,show n-j=(n-(j+1))+1 by omega];show (bndK A (fun x=>bndK (repK A (n-(j+1))) fun r=>retK (x::r)) l p1).map _=_;unfold bndK;rw[hy]
 rfl
theorem RepK.done {α:Type} {A:Kr α} {l:List UInt8} {p n p1:Nat} {acc:List α} (h:RepK A l p n n acc p1):repK A n l p=some (acc,p1):=by
 unfold RepK at h;rw[h,Nat.sub_self];show some (acc++[],p1)=_;rw[Z14]
theorem Y9v {α β:Type} {A:Kr α} {F:α→Kr β} {l:List UInt8} {p p':Nat} {x:α} (h:A l p=some (x,p')):bndK A F l p=F x l p':=by
 unfold bndK;rw[h]
 rfl
theorem Y9u {α β:Type} {A:Kr α} {F:α→Kr β} {l:List UInt8} {p:Nat} (h:A l p=none):bndK A F l p=none:=by
 unfold bndK;rw[h]
 rfl
theorem Y7n {α:Type} {o:Option α} {l:List UInt8} {p:Nat} {x:α} (h:o=some x):optK o l p=some (x,p):=by
 unfold optK;rw[h]
 rfl
theorem Y6i {α:Type} {o:Option α} {l:List UInt8} {p:Nat} (h:o=none):optK o l p=none:=by
 unfold optK;rw[h]
 rfl
theorem Y7e {n most p v p':Nat} {l:List UInt8} (h:numK n most l p=some (v,p')):v≤most:=by
 unfold numK at h
 split at h
 ·rename_i hc
  injection h with h
  injection h with h1 h2
  omega
 ·cases h
def vtR (pool:List Cst) (k:Nat):Kr Vt:=
 if k=7 then bndK (numK 2 65535) fun i=>bndK (optK (clsK pool i)) fun s=>retK ⟨7,s,0⟩
 else if k=8 then bndK (numK 2 65535) fun i=>retK ⟨8,[],i⟩
 else ifK (decide (k≤1∨4≤k)) (retK ⟨k,[],0⟩)
section
variable {pool:List Cst} {l:List UInt8} {p2 p3 i k:Nat} {s:List UInt8}
theorem W6f (h:numK 2 65535 l p2=none):vtR pool 7 l p2=none:=by
 unfold vtR;rw[if_pos rfl];exact Y9u h
theorem W7b (h:numK 2 65535 l p2=some (i,p3)) (hc:clsK pool i=none):vtR pool 7 l p2=none:=by
 unfold vtR;rw[if_pos rfl];rw[Y9v h];exact Y9u (Y6i hc)
theorem W8d (h:numK 2 65535 l p2=some (i,p3)) (hc:clsK pool i=some s):vtR pool 7 l p2=some (⟨7,s,0⟩,p3):=by
 unfold vtR;rw[if_pos rfl];rw[Y9v h,Y9v (Y7n hc)]
 rfl
theorem W5i (h:numK 2 65535 l p2=none):vtR pool 8 l p2=none:=by
 unfold vtR;rw[if_neg (by decide),if_pos rfl];exact Y9u h
theorem W7t (h:numK 2 65535 l p2=some (i,p3)):vtR pool 8 l p2=some (⟨8,[],i⟩,p3):=by
 unfold vtR;rw[if_neg (by decide),if_pos rfl];rw[Y9v h]
 rfl
theorem W4r (h7:k≠7) (h8:k≠8) (h:¬(k≤1∨4≤k)):vtR pool k l p2=none:=by
 unfold vtR;rw[if_neg h7,if_neg h8,Z48 h]
 rfl
theorem X2j (h7:k≠7) (h8:k≠8) (h:k≤1∨4≤k):vtR pool k l p2=some (⟨k,[],0⟩,p2):=by
 unfold vtR;rw[if_neg h7,if_neg h8,Z47 h]
 rfl
end
theorem W4j {pool:List Cst} {l:List UInt8} {p1 p2 k:Nat} (h:numK 1 8 l p1=some (k,p2)):vtK pool l p1=vtR pool k l p2:=by
 show (numK 1 8 l p1).bind _=_;rw[h]
 rfl
def VtsP (B:Nat) (r:List Vt) (e:Ending) (w':World):Prop:=∃v,e = .returned v∧OwS vtC 3 w' B 91 v r
theorem X7m (n:Nat) (gk gr gv lo:Nat) (l:List UInt8) (p:Nat) (x:ImE) (b:Bool) (w:World) (h:Krd w gk gr gv lo l p false x b) (hn:n≤1000000) :
  Calls Tryd.prog 86 #[.pointer (some ⟨gk,0,none⟩),.int .i64 (n:Int)] w (KrP (repK (vtK x.p.pool) n l p) (VtsP w.heap.size) gk gr gv lo l x b w):=by
 obtain⟨R,hR⟩:∃R,repK (vtK x.p.pool) n l p=R:=⟨_,rfl⟩;rw[hR];have HR:=bx hR;have HK:=bx h;clear h hR
 go_enter Tryd.func86,Tryd.ntmps86
 go_wp2_with fail
 go_loopw [5,8] (fun v iv wx=>∃(j:Nat) (acc:List Vt) (p1:Nat),j≤n∧iv = .int .i64 (j:Int)∧Bx (acc.length=j∧OwS vtC 3 wx w.heap.size 91 v acc∧Krd wx gk gr gv lo l p1 false x b∧Ch w wx (OneR gr)∧RepK (vtK x.p.pool) l p n j acc p1)) (fun _ iv _=>n-(intOf iv).toNat)
 case atStart=>exact⟨0,[],p,by omega,rfl,bx ⟨rfl,OwS.nil,HK.out,Ch.refl _,RepK.start _ _ _ _⟩⟩
 case round=>
  obtain⟨j,acc,p1,hj,rfl,Zs⟩:=hrel;obtain⟨A2,c2_,hv2,_,_⟩:=OwS.rd Zs.out.2.1;by_cases hjn:j<n
  ·have hjI:(j:Int)<(n:Int):=by omega
   have HN:=bx (Y5r 1 8 gk gr gv lo l p1 x b wr Zs.out.2.2.1 (by decide) (by decide));obtain⟨o,ho⟩:∃o,numK 1 8 l p1=o:=⟨_,rfl⟩;rw[ho]at HN;have HO:=bx ho;clear ho;go_wp2_with fail
   refine HN.out.mono ?_;intro e w1 hp;obtain⟨hp,hc1⟩:=hp;have Zt:=bx hc1;clear hc1 HN;cases o with
   | none=>have hp:e = .panicked brkC:=hp;subst hp;have HX:Bx (R=none):=bx (by rw[←HR.out];refine Zs.out.2.2.2.2.stop hjn ?_;show (numK 1 8 l p1).bind _=none;rw[HO.out];rfl);go_wp2;rw[HX.out];exact⟨rfl,rfl,Zs.out.2.2.2.1.trans Zt.out (fun _ _ e=>e)⟩
   | some r=>
    obtain⟨k,p2⟩:=r;obtain⟨hp,hk2⟩:=hp;have hp:e = .returned (.int .i64 (k:Int)):=hp;subst hp;have Zj:=bx hk2;have HV:=bx hv2;have Xl:Bx (wr.heap.size≤w1.heap.size):=bx Zt.out.size;clear hk2 hv2;have hk8:k≤8:=Y7e HO.out;have Kq:Bx (vtK x.p.pool l p1=vtR x.p.pool k l p2):=bx (W4j HO.out)
    go_upto_block 2 with(fail)
    have hc2:=Zt.out.alloc (.cells #[.int .i64 (k:Int),.string ⟨#[]⟩,.int .i64 0] 91);have hk3:=Zj.out.below (Y9z (Below.refl _ w1) (Z00 _) (.cells #[.int .i64 (k:Int),.string ⟨#[]⟩,.int .i64 0] 91));have hb3:=Bk.new w1 91 #[.int .i64 (k:Int),.string ⟨#[]⟩,.int .i64 0];obtain⟨w2,hw2⟩:∃w2,w1.alloc (.cells #[.int .i64 (k:Int),.string ⟨#[]⟩,.int .i64 0] 91)=w2:=⟨_,rfl⟩;obtain⟨g,hg⟩:∃g,w1.heap.size=g:=⟨_,rfl⟩;rw[hw2]at hc2 hk3 hb3 ⊢;rw[hg]at hb3 ⊢;have HG:Bx (gk<g∧gr<g∧gv<g∧w.heap.size≤g):=bx (by have h1:=Zs.out.2.2.1.lt;have h2:=Zs.out.2.2.2.1.size;have h3:=Xl.out;omega);have Jm:Bx (wr.heap.size≤g):=bx (hg ▸ Xl.out);have Yr:=bx hc2;have Zo:=bx hk3;have Xv:=bx hb3;clear hc2 hk3 hb3 hw2 hg Zt Zj Xl HO hp
    go_cut [24] from 15 to 38 (fun _ wx=>∃(y:Vt) (p3:Nat),Bx (vtK x.p.pool l p1=some (y,p3)∧Bk wx g 91 #[.int .i64 y.kind,strQ y.name,.int .i64 y.at_]∧Krd wx gk gr gv lo l p3 false x b∧Ch wr wx (OneR gr)))
    case first=>
     have hstop:∀wq,vtK x.p.pool l p1=none→Ch wr wq (OneR gr)→KrP R (VtsP w.heap.size) gk gr gv lo l x b w (.panicked brkC) wq:=fun wq h c=>by
      have hX:R=none:=by rw[←HR.out];exact Zs.out.2.2.2.2.stop hjn h
      rw[hX];exact⟨rfl,Zs.out.2.2.2.1.trans c (fun _ _ e=>e)⟩
     have Zw:=bx hstop;clear hstop HR Zs hjn HK;by_cases h7:k=7
     ·subst h7
      obtain⟨o2,ho2⟩:∃o2,numK 2 65535 l p2=o2:=⟨_,rfl⟩;have Si:=bx ho2;clear ho2;have s1:w2.drew.cell? ⟨gk,1,none⟩=some (.pointer (some ⟨gv,0,none⟩)):=(Zo.out.box.cell 1).trans rfl;have hlt:=Zo.out.lt.1;go_wp2_with fail
      refine Y9x (S:=fun w'=>w'.cell? ⟨gk,1,none⟩=some (.pointer (some ⟨gv,0,none⟩))) (.tk 0 (.tk 1 (.tk 2 (.tk 3 (.tk 4 (.rn 5 (.rn 6 (.tk 7 (.rn 8 .fin))))))))) (by kernel_rfl) (by kernel_rfl) (by kernel_rfl) (fun _ _ _ _ h=>h) s1 ?_;refine SeqW.take (o:=?sp1) (v:=?sv1) ?so1 (Or.inl ⟨?sw1,?sy1⟩) ?sr1
      case so1=>rfl
      case sw1=>rfl
      case sy1=>(intro w hSw;(try dsimp only at hSw);go_simp <;> with_reducible rfl)
      simp only[Act.put,Z06,Z04,Z05];refine SeqW.take (o:=?sp2) (v:=?sv2) ?so2 (Or.inl ⟨?sw2,?sy2⟩) ?sr2
      case so2=>rfl
      case sw2=>rfl
      case sy2=>(intro w hSw;(try dsimp only at hSw);go_simp <;> with_reducible rfl)
      simp only[Act.put,Z06,Z04,Z05];refine SeqW.take (o:=?sp3) (v:=?sv3) ?so3 (Or.inl ⟨?sw3,?sy3⟩) ?sr3
      case so3=>rfl
      case sw3=>rfl
      case sy3=>(intro w hSw;(try dsimp only at hSw);go_simp <;> with_reducible rfl)
      simp only[Act.put,Z06,Z04,Z05];refine SeqW.take (o:=?sp4) (v:=?sv4) ?so4 (Or.inl ⟨?sw4,?sy4⟩) ?sr4
      case so4=>rfl
      case sw4=>rfl
      case sy4=>(intro w hSw;(try dsimp only at hSw);go_simp <;> with_reducible rfl)
      simp only[Act.put,Z06,Z04,Z05];refine SeqW.take (o:=?sp5) (v:=?sv5) ?so5 (Or.inl ⟨?sw5,?sy5⟩) ?sr5
      case so5=>rfl
      case sw5=>rfl
      case sy5=>(intro w hSw;(try dsimp only at hSw);go_simp <;> with_reducible rfl)
      simp only[Act.put,Z06,Z04,Z05];have hk3d:Krd w2.drew gk gr gv lo l p2 false x b:=Zo.out.below (below_drewN (Below.refl _ _) 1);refine SeqW.run rfl (fun K hK hP=>?_);go_wp2_with fail
      refine(Y5r 2 65535 gk gr gv lo l p2 x b _ hk3d (by decide) (by decide)).mono ?_
      intro e w3 hp;obtain⟨hp,hc3⟩:=hp;rw[Si.out]at hp;have hc3:Ch w2 w3 (OneR gr):=(((Ch.refl w2).drewN 1).trans hc3 (fun _ _ e=>e));have Yw:=bx hc3;clear hc3;cases o2 with
      | none=>have hp:e = .panicked brkC:=hp;subst hp;go_wp2;refine hP.out _ _ _ ?_;exact⟨rfl,Zw.out _ (by rw[Kq.out];exact W6f Si.out) (Yr.out.trans Yw.out (fun _ _ e=>e))⟩
      | some r=>
       obtain⟨i,p3⟩:=r;obtain⟨hp,hk4⟩:=hp;have hp:e = .returned (.int .i64 (i:Int)):=hp;subst hp;have Zk:=bx hk4;clear hk4 hk3d;go_wp2;refine hK.out _ _ ((Zk.out.box.cell 1).trans rfl) ?_;clear hK hP K;refine SeqW.run rfl (fun K hK hP=>?_);go_wp2_with fail
       obtain⟨o3,ho3⟩:∃o3,clsK x.p.pool i=o3:=⟨_,rfl⟩;have R4:=bx (Y4k x b gv i w3 Zk.out.vw);rw[ho3]at R4;have Na:=bx ho3;clear ho3;refine R4.out.mono ?_;intro e w4 hp;obtain⟨hp,hb4⟩:=hp;have Yg:=bx (Yw.out.trans (Ch.of_below (S:=OneR gr) hb4) (fun _ _ e=>e));have Zm:=bx (Zk.out.below hb4);clear hb4 R4 Zk Yw;cases o3 with
       | none=>have hp:e = .panicked brkC:=hp;subst hp;go_wp2;refine hP.out _ _ _ ?_;exact⟨rfl,Zw.out _ (by rw[Kq.out];exact W7b Si.out Na.out) (Yr.out.trans Yg.out (fun _ _ e=>e))⟩
       | some s=>
        have hp:e = .returned (.string ⟨s.toArray⟩):=hp;subst hp;have Yj:=bx (Xv.out.ch Yg.out (fun e=>by have e:g=gr:=e;have:=HG.out;omega));go_wp2;refine hK.out _ _ ((Zm.out.box.cell 1).trans rfl) ?_;clear hK hP K;refine SeqW.take (o:=?sp6) (v:=?sv6) ?so6 (Or.inl ⟨?sw6,?sy6⟩) ?sr6
        case so6=>rfl
        case sw6=>rfl
        case sy6=>(intro w hSw;(try dsimp only at hSw);go_simp <;> with_reducible rfl)
        simp only[Act.put,Z06,Z04,Z05];refine SeqW.run rfl (fun K hK hP=>?_);have hfz:=Yj.out.frz 1;have hcl:=Yj.out.cell 1;simp only[Z19,List.getElem?_cons_zero,Z21]at hcl;go_wp2_with fail
        have hcs:Ch w4 (w4.setCell ⟨g,1,none⟩ (.string ⟨s.toArray⟩)) (OneR g):=Ch.one;have hk6:=Zm.out.far hcs (fun k hk e=>by have e:k=g:=e;have:=HG.out;have:=Zm.out.ord;omega);refine hK.out _ _ ((hk6.box.cell 1).trans rfl) ?_;clear hK hP K hfz hcl;refine SeqW.done ?_;go_wp2
        go_meet
        exact⟨⟨7,s,0⟩,p3,bx ⟨by rw[Kq.out];exact W8d Si.out Na.out,Yj.out.set 1 _,hk6,(Yr.out.trans Yg.out (fun _ _ e=>e)).trans hcs (fun k hk e=>by have e:k=g:=e;have:=Jm.out;omega)⟩⟩
     ·have h7I:((k:Int)==7)=false:=by simp;omega
      by_cases h8:k=8
      ·subst h8
       obtain⟨o2,ho2⟩:∃o2,numK 2 65535 l p2=o2:=⟨_,rfl⟩;have Si:=bx ho2;clear ho2;have hlt:=Zo.out.lt.1;go_wp2_with fail
       refine(Y5r 2 65535 gk gr gv lo l p2 x b _ Zo.out (by decide) (by decide)).mono ?_
       intro e w3 hp;obtain⟨hp,hc3⟩:=hp;rw[Si.out]at hp;have Yw:=bx hc3;clear hc3;cases o2 with
       | none=>have hp:e = .panicked brkC:=hp;subst hp;go_wp2;exact⟨rfl,Zw.out _ (by rw[Kq.out];exact W5i Si.out) (Yr.out.trans Yw.out (fun _ _ e=>e))⟩
       | some r=>
        obtain⟨i,p3⟩:=r;obtain⟨hp,hk4⟩:=hp;have hp:e = .returned (.int .i64 (i:Int)):=hp;subst hp;have Zk:=bx hk4;have Yj:=bx (Xv.out.ch Yw.out (fun e=>by have e:g=gr:=e;have:=HG.out;omega));clear hk4;have hfz:=Yj.out.frz 2;have hcl:=Yj.out.cell 2;simp only[Z19,List.getElem?_cons_zero,Z21]at hcl;go_wp2_with fail
        go_meet
        have hcs:Ch w3 (w3.setCell ⟨g,2,none⟩ (.int .i64 (i:Int))) (OneR g):=Ch.one;have hk6:=Zk.out.far hcs (fun k hk e=>by have e:k=g:=e;have:=HG.out;have:=Zk.out.ord;omega);exact⟨⟨8,[],i⟩,p3,bx ⟨by rw[Kq.out];exact W7t Si.out,Yj.out.set 2 _,hk6,(Yr.out.trans Yw.out (fun _ _ e=>e)).trans hcs (fun k hk e=>by have e:k=g:=e;have:=Jm.out;omega)⟩⟩
      ·have h8I:((k:Int)==8)=false:=by simp;omega
       have hcl:=Xv.out.cell 0;simp only[Z19,List.getElem?_cons_zero,Z21]at hcl;by_cases h1:k≤1
       ·have h1I:(k:Int)≤1:=by omega
        have h1d:decide ((k:Int)≤1)=true:=Z47 h1I;go_wp2_with fail
        refine(Y7r _).mono ?_
        rintro e w3 ⟨rfl,hw⟩;obtain rfl:w2=w3:=hw.symm;go_wp2_with fail
        go_meet
        exact⟨⟨k,[],0⟩,p2,bx ⟨by rw[Kq.out];exact X2j h7 h8 (.inl h1),Xv.out,Zo.out,Yr.out⟩⟩
       ·have h1I:¬(k:Int)≤1:=by omega
        have h1d:decide ((k:Int)≤1)=false:=Z48 h1I;by_cases h4:4≤k
        ·have h4I:4≤(k:Int):=by omega
         have h4d:decide (4≤(k:Int))=true:=Z47 h4I;go_wp2_with fail
         refine(Y7r _).mono ?_
         rintro e w3 ⟨rfl,hw⟩;obtain rfl:w2=w3:=hw.symm;go_wp2_with fail
         go_meet
         exact⟨⟨k,[],0⟩,p2,bx ⟨by rw[Kq.out];exact X2j h7 h8 (.inr h4),Xv.out,Zo.out,Yr.out⟩⟩
        ·have h4I:¬4≤(k:Int):=by omega
         have h4d:decide (4≤(k:Int))=false:=Z48 h4I;go_wp2_with fail
         refine(Y7o _).mono ?_
         rintro e w3 ⟨rfl,hw⟩;obtain rfl:w2=w3:=hw.symm;go_wp2;exact⟨rfl,Zw.out _ (by rw[Kq.out];exact W4r h7 h8 (by omega)) Yr.out⟩
    case rest=>
     obtain⟨y,p3,hC⟩:=hcut;obtain rfl:=HV.out;have Ro:=bx (Zs.out.2.1.one hC.out.2.2.2 HK.out.lt.2.1);have HX:=bx (Zs.out.2.2.2.2.next hjn hC.out.1);have Lg:=bx Zs.out.1;have Lc:Bx ((acc.length+[y].length)*32≤140737488355328):=bx (by simp only[Z11,Z13];have:=Zs.out.1;omega);have Xi:=bx (Zs.out.2.2.2.1.trans hC.out.2.2.2 (fun _ _ e=>e));have c0:=hC.out.2.1.cell 0;have c1:=hC.out.2.1.cell 1;have c2:=hC.out.2.1.cell 2;simp only[Z19,List.getElem?_cons_zero,Z21]at c0 c1 c2;have Zm:=bx hC.out.2.2.1;have Zd:=bx (RS.new (fC:=vtC) wc y #[.int .i64 y.kind,strQ y.name,.int .i64 y.at_] rfl 91 (0,0));have hz:w.heap.size≤wc.heap.size:=Xi.out.size;clear hC Zs Jm Kq HV;go_step;go_wp2_with (at_builtin;refine Y9y _ vtCels rfl (.tmp 39) (.tmp 41) rfl vtTy (by decide) w.heap.size (.slice A2 acc.length c2_) acc rfl (OwS.alloc Ro.out _) (wc.heap.size+1) (some ⟨wc.heap.size,0,none⟩) 1 1 [y] rfl rfl Zd.out Lc.out (Y5f hz _) ?_;intro V7 w7 hO7 hg7 hv7 hb7;have Qo:=bx hO7)
     go_roundw
     case rel=>have hcl:Ch wc w7 (fun k=>w.heap.size≤k):=Ch.of_low ((Y9z (Below.refl _ wc) hz _).trans hb7);have hlt:=HK.out.lt;have hord:=HK.out.ord;exact⟨j+1,acc++[y],p3,by omega,by go_num,bx ⟨by rw[Z09,Lg.out];rfl,Qo.out,Zm.out.far hcl (fun k hk e=>by have e:w.heap.size≤k:=e;omega),Xi.out.trans hcl (fun k hk e=>by have e:w.heap.size≤k:=e;omega),HX.out⟩⟩
     case measure=>simp [intOf];omega
  ·have hjI:¬(j:Int)<(n:Int):=by omega
   have hjn2:j=n:=(by omega);have HE:=bx hjn2;have hO9:=bx (show OwS vtC 3 wr w.heap.size 91 (.slice A2 acc.length c2_) acc from hv2 ▸ Zs.out.2.1);clear hjn2;go_wp2;go_ret;have hX:=Zs.out.2.2.2.2;rw[HE.out]at hX;have hX2:R=some (acc,p1):=HR.out.symm.trans hX.done;rw[hX2];exact⟨⟨⟨.slice A2 acc.length c2_,rfl,hO9.out⟩,Zs.out.2.2.1⟩,Zs.out.2.2.2.1⟩
open Go.RowKit
def Nw (w0 wx:World) (k:Nat):Prop:=w0.heap.size≤k∧k<wx.heap.size
theorem Nw.ch {w0 wx w':World} {U:Nat→Prop} (c:Ch wx w' U) (hU:∀k,w0.heap.size≤k→¬U k):∀k,Nw w0 wx k→w'.heap[k]? = wx.heap[k]? := fun k hk=>c.same k hk.2 (hU k hk.1)
theorem Nw.up {w0 wx w':World} {U:Nat→Prop} (c:Ch wx w' U):∀k,Nw w0 wx k→Nw w0 w' k:=fun _ hk=>⟨hk.1,Z07 hk.2 c.size⟩
theorem SlX.of {w:World} {X:Nat→Prop} {B n c:Nat} {e:TypeId} {A:Option Addr} {l:List UInt8} (h:OwB w B e (.slice A n c) l) (hX:∀k,B≤k→k<w.heap.size→X k):SlX w X ⟨A,n,c,l⟩:=by
 have hh:=h;obtain⟨A',c',e1,hr,hc,hc2⟩:=OwL.rd h;injection e1 with e1 e2 e3
 subst e1 e2 e3;refine⟨rfl,hc,hc2,fun hn=>?_⟩;obtain⟨ad,e2,hx,hcl⟩:=hr hn;subst e2
 have hlo:=(World.ownsRow.lt hh ad.block (by
  rcases hh.2 with⟨e3,_⟩ | ⟨g,cap,cur,e3,_⟩
  ·injection e3 with e3 _ _;cases e3
  ·injection e3 with e3 _ _;injection e3 with e3;subst e3;rfl)).1
 exact⟨ad,rfl,hX _ hlo hx,hcl⟩
structure Kst (T:TypeId) (wr wx:World) (g gk gr gv lo:Nat) (l:List UInt8) (p:Nat) (x:ImE) (b:Bool) (cs:Array Value):Prop where
 bk:Bk wx g T cs
 kd:Krd wx gk gr gv lo l p false x b
 ch:Ch wr wx (OneR gr)
 lo:gk<g∧gr<g∧gv<g∧wr.heap.size≤g
theorem SqX.of {α:Type} {fC:α→List Value} {w:World} {X:Nat→Prop} {B sz n c:Nat} {e:TypeId} {A:Option Addr} {l:List α} (h:OwS fC sz w B e (.slice A n c) l) (hX:∀k,B≤k→k<w.heap.size→X k):SqX fC w X ⟨A,n,c,l⟩:=by
 obtain⟨⟨A',n',c',l'⟩,hv,hl,hs⟩:=SqX.own h hX;unfold Sq.v at hv;injection hv with e1 e2 e3
 subst e1 e2 e3;have hl:l'=l:=hl;subst hl;exact hs
section
variable {T:TypeId} {wr wx w':World} {g gk gr gv lo:Nat} {l:List UInt8} {p p':Nat} {x:ImE} {b:Bool} {cs:Array Value}
theorem Kst.new (cs:Array Value) (h:Krd wx gk gr gv lo l p false x b) (c:Ch wr wx (OneR gr)):Kst T wr (wx.alloc (.cells cs T)) wx.heap.size gk gr gv lo l p x b cs:=
 ⟨Bk.new _ _ _,h.below (Y9z (Below.refl _ _) (Z00 _) _),c.alloc _,by have:=h.lt;exact⟨this.1,this.2.1,this.2.2,c.size⟩⟩
theorem Kst.set (h:Kst T wr wx g gk gr gv lo l p x b cs) (i:Nat) (u:Value):Kst T wr (wx.setCell ⟨g,i,none⟩ u) g gk gr gv lo l p x b (cs.setIfInBounds i u):=
 ⟨h.bk.set i u,h.kd.far Ch.one (fun k hk e=>by have e:k=g:=e;have:=h.lo;omega),h.ch.trans Ch.one (fun k hk e=>by have e:k=g:=e;have:=h.lo;omega),h.lo⟩
theorem Kst.step (h:Kst T wr wx g gk gr gv lo l p x b cs) (c:Ch wx w' (OneR gr)) (hk:Krd w' gk gr gv lo l p' false x b):Kst T wr w' g gk gr gv lo l p' x b cs:=
 ⟨h.bk.ch c (fun e=>by have e:g=gr:=e;have:=h.lo;omega),hk,h.ch.trans c (fun _ _ e=>e),h.lo⟩
theorem Kst.below (h:Kst T wr wx g gk gr gv lo l p x b cs) (c:Below wx.heap.size wx w'):Kst T wr w' g gk gr gv lo l p x b cs:=h.step (Ch.of_below c) (h.kd.below c)
theorem Kst.chg {U:Nat→Prop} {B:Nat} (h:Kst T wr wx g gk gr gv lo l p x b cs) (c:Ch wx w' U) (hU:∀k,U k→B≤k∧k≠g) (hB:gr<B∧gk<B):Bk w' g T cs∧Krd w' gk gr gv lo l p false x b:=
 ⟨h.bk.ch c (fun e=>(hU _ e).2 rfl),h.kd.far c (fun k hk e=>by have:=(hU k e).1;omega)⟩
theorem Kst.frz (h:Kst T wr wx g gk gr gv lo l p x b cs) (i:Nat):wx.frozen? ⟨g,i,none⟩=false:=h.bk.frz i
theorem Kst.cell (h:Kst T wr wx g gk gr gv lo l p x b cs) {i:Nat} {u:Value} (hu:cs[i]? = some u):wx.cell? ⟨g,i,none⟩=some u:=(h.bk.cell i).trans hu
theorem Kst.lt (h:Kst T wr wx g gk gr gv lo l p x b cs):g<wx.heap.size:=h.bk.lt
theorem OwS.far {α:Type} {fC:α→List Value} {sz base i:Nat} {e:TypeId} {v u:Value} {L:List α} (h:OwS fC sz wx base e v L) (hg:g<base):OwS fC sz (wx.setCell ⟨g,i,none⟩ u) base e v L:=
 h.set_other (p:=⟨g,i,none⟩) (fun e=>by have:=(h.blk e).1;show False;have:base≤g:=this;omega) u
end
section
variable {R:Ending→World→Prop} {gk gr gv lo:Nat} {l:List UInt8} {p:Nat} {x:ImE} {b:Bool} {w:World}
theorem Y9w (c:Bool) (hno:c=false→R (.panicked brkC) w) (hyes:c=true→R (.returned (.tuple #[])) w):Calls Tryd.prog 39 #[.bool c] w R:=by
 cases c with
 | false=>exact(Y7o w).mono (by rintro e w' ⟨rfl,hw⟩;obtain rfl:w=w':=hw.symm;exact hno rfl)
 | true=>exact(Y7r w).mono (by rintro e w' ⟨rfl,hw⟩;obtain rfl:w=w':=hw.symm;exact hyes rfl)
theorem Y8x (n most:Nat) (h:Krd w gk gr gv lo l p false x b) (hn:1≤n∧n≤4) (hm:most≤4294967296)
  (hno:numK n most l p=none→∀w',Ch w w' (OneR gr)→R (.panicked brkC) w')
  (hyes:∀v p',numK n most l p=some (v,p')→∀w',Ch w w' (OneR gr)→Krd w' gk gr gv lo l p' false x b→R (.returned (.int .i64 (v:Int))) w') :
  Calls Tryd.prog 79 #[.pointer (some ⟨gk,0,none⟩),.int .i64 (n:Int),.int .i64 (most:Int)] w R:=by
 refine(Y5r n most gk gr gv lo l p x b w h hn hm).mono ?_
 intro e w' hp;obtain⟨hp,hc⟩:=hp;cases ho:numK n most l p with
 | none=>rw[ho]at hp;have hp:e = .panicked brkC:=hp;subst hp;exact hno ho _ hc
 | some r=>obtain⟨v,p'⟩:=r;rw[ho]at hp;obtain⟨hp,hk⟩:=hp;have hp:e = .returned (.int .i64 (v:Int)):=hp;subst hp;exact hyes v p' ho _ hc hk
theorem Y7i (n:Nat) (h:Krd w gk gr gv lo l p false x b) (hn:n≤1000000)
  (hno:repK (vtK x.p.pool) n l p=none→∀w',Ch w w' (OneR gr)→R (.panicked brkC) w')
  (hyes:∀r p' A m c,repK (vtK x.p.pool) n l p=some (r,p')→∀w',Ch w w' (OneR gr)→Krd w' gk gr gv lo l p' false x b→OwS vtC 3 w' w.heap.size 91 (.slice A m c) r→R (.returned (.slice A m c)) w') :
  Calls Tryd.prog 86 #[.pointer (some ⟨gk,0,none⟩),.int .i64 (n:Int)] w R:=by
 refine(X7m n gk gr gv lo l p x b w h hn).mono ?_
 intro e w' hp;obtain⟨hp,hc⟩:=hp;cases ho:repK (vtK x.p.pool) n l p with
 | none=>rw[ho]at hp;have hp:e = .panicked brkC:=hp;subst hp;exact hno ho _ hc
 | some r=>obtain⟨v,p'⟩:=r;rw[ho]at hp;obtain⟨⟨u,rfl,hO⟩,hk⟩:=hp;obtain⟨A,c,rfl,_,_⟩:=hO.rd;exact hyes v p' A v.length c ho _ hc hk hO
theorem Y9f {gv:Nat} (i:Int) (hv:Vw w gv x b)
  (hno:txtK x.p.pool i=none→∀w',Below w.heap.size w w'→R (.panicked brkC) w')
  (hyes:∀s,txtK x.p.pool i=some s→∀w',Below w.heap.size w w'→R (.returned (.string ⟨s.toArray⟩)) w') :
  Calls Tryd.prog 56 #[.pointer (some ⟨gv,0,none⟩),.int .i64 i] w R:=by
 refine(X3a x b gv i w hv).mono ?_
 intro e w' hp;obtain⟨hp,hb⟩:=hp;cases ho:txtK x.p.pool i with
 | none=>rw[ho]at hp;have hp:e = .panicked brkC:=hp;subst hp;exact hno ho _ hb
 | some s=>rw[ho]at hp;have hp:e = .returned (.string ⟨s.toArray⟩):=hp;subst hp;exact hyes s ho _ hb
theorem Y8m {gv:Nat} (i:Int) (hv:Vw w gv x b)
  (hno:plainK x.p.pool i=none→∀w',Below w.heap.size w w'→R (.panicked brkC) w')
  (hyes:∀s,plainK x.p.pool i=some s→∀w',Below w.heap.size w w'→R (.returned (.string ⟨s.toArray⟩)) w') :
  Calls Tryd.prog 38 #[.pointer (some ⟨gv,0,none⟩),.int .i64 i] w R:=by
 refine(X8c x b gv i w hv).mono ?_
 intro e w' hp;obtain⟨hp,hb⟩:=hp;cases ho:plainK x.p.pool i with
 | none=>rw[ho]at hp;have hp:e = .panicked brkC:=hp;subst hp;exact hno ho _ hb
 | some s=>rw[ho]at hp;have hp:e = .returned (.string ⟨s.toArray⟩):=hp;subst hp;exact hyes s ho _ hb
theorem Y3f {n p p':Nat} {d l:List UInt8} (h:bytK n l p=some (d,p')):d.length=n∧p'=p+n∧p+n≤l.length:=by
 unfold bytK at h
 split at h
 ·injection h with h
  injection h with h1 h2
  subst h1 h2;exact⟨by rw[Z29,List.length_drop];omega,rfl,by assumption⟩
 ·cases h
theorem Y1p (n:Nat) (h:Krd w gk gr gv lo l p false x b)
  (hno:bytK n l p=none→∀A c w',Ch w w' (OneR gr)→Krd w' gk gr gv lo l p true x b→R (.returned (.slice A 0 c)) w')
  (hyes:∀d A c,bytK n l p=some (d,p+n)→∀w',Ch w w' (OneR gr)→Krd w' gk gr gv lo l (p+n) false x b→OwB w' w.heap.size 5 (.slice A n c) d→R (.returned (.slice A n c)) w') :
  Calls Tryd.prog 80 #[.pointer (some ⟨gr,0,none⟩),.int .i64 (n:Int)] w R:=by
 refine(X8d gr lo l p false n w h.rd).mono ?_
 rintro e w' ⟨r,rfl,hO,hr,hg⟩;have hc:=Y4g hg;by_cases hp:p+n≤l.length
 ·have hok:okB l p false (n:Int)=true:=by simp [okB];omega
  unfold bytAt at hr;unfold bytV at hO;rw[hok]at hr hO;rw[if_pos rfl,Z30]at hr hO;have hb:bytK n l p=some ((l.drop p).take n,p+n):=by unfold bytK;rw[if_pos hp]
  obtain⟨A,c,rfl,_⟩:=OwL.rd hO;have hl:=(Y3f hb).1;rw[hl]at hO ⊢;exact hyes _ A c hb w' hc (h.on hr hc) hO
 ·have hok:okB l p false (n:Int)=false:=by simp [okB];omega
  unfold bytAt at hr;unfold bytV at hO;rw[hok]at hr hO;rw[if_neg (by decide)]at hr hO;obtain⟨A,c,rfl,_⟩:=OwL.rd hO;exact hno (by unfold bytK;rw[if_neg hp]) A c w' hc (h.on hr hc)
theorem X4p (h:Krd w gk gr gv lo l p false x b)
  (hno:endK l p=none→∀w',Below w.heap.size w w'→R (.panicked brkC) w')
  (hyes:endK l p=some ((),p)→∀w',Below w.heap.size w w'→R (.returned (.tuple #[])) w') :
  Calls Tryd.prog 82 #[.pointer (some ⟨gk,0,none⟩)] w R:=by
 refine(X0u gk gr gv lo l p false x b w h).mono ?_
 intro e w' hp;obtain⟨rfl,hb⟩:=hp;by_cases hpl:p=l.length
 ·rw[if_pos (by simp [hpl])]
  exact hyes (by unfold endK;rw[if_pos hpl]) _ hb
 ·rw[if_neg (by simp [hpl])]
  exact hno (by unfold endK;rw[if_neg hpl]) _ hb
end
open Go.RowKit
set_option linter.unusedSimpArgs false
def slC (s:Sl):List Value:=[slV s]
theorem slCels:Cels slC 1:=⟨fun _=>rfl,fun x u hu=>by
 simp only[slC,Z23,Z43,or_false]at hu;rcases hu with rfl;rfl,by decide⟩
theorem slTy:ETy Tryd.prog 133 28 (.slice none 0 0) 1 24:=⟨Tryd.underlying133,info_parts (by kernel_rfl),rfl,by decide⟩
def NamI (pool:List Cst) (what:List UInt8) (L:List Att) (i:Nat) (acc:List (List UInt8)):Prop:=namK pool what L=(namK pool what (L.drop i)).map fun r=>acc++r
section
variable {pool:List Cst} {what s:List UInt8} {L:List Att} {i:Nat} {acc:List (List UInt8)} {a:Att}
theorem NamI.start:NamI pool what L 0 []:=by
 unfold NamI;rw[List.drop_zero];cases namK pool what L <;> rfl
theorem NamI.stop (h:NamI pool what L i acc) (ha:L[i]? = some a) (hs:txtK pool a.name=none):namK pool what L=none:=by
 unfold NamI at h;obtain⟨hi,e⟩:=Z24.1 ha;rw[h,Z42 hi,e];unfold namK;rw[hs]
 rfl
theorem NamI.next (h:NamI pool what L i acc) (ha:L[i]? = some a) (hs:txtK pool a.name=some s):NamI pool what L (i+1) (if s=what then acc++[a.data] else acc):=by
 unfold NamI at h ⊢;obtain⟨hi,e⟩:=Z24.1 ha;rw[h,Z42 hi,e]
 conv=>lhs;unfold namK
 rw[hs];cases namK pool what (List.drop (i+1) L) with
 | none=>rfl
 | some r=>
  show some _=some _
  split <;> simp
theorem NamI.done (h:NamI pool what L L.length acc):namK pool what L=some acc:=by
 unfold NamI at h;rw[h,List.drop_length];show some (acc++[])=_;rw[Z14]
end
def NamP (L:List AtE) (w:World) (o:Option (List (List UInt8))) (e:Ending) (w':World):Prop:=
 (match o with
  | some vs=>∃A n c,∃ps:List Sl,e = .returned (.slice A n c)∧OwS slC 1 w' w.heap.size 28 (.slice A n c) ps∧ps.map (·.l)=vs∧∀p∈ps,∃a∈L,a.s=p
  | none=>e = .panicked brkC)∧Below w.heap.size w w'
theorem Y4f (x:ImE) (b:Bool) (gv B:Nat) (A:Option Addr) (n c:Nat) (L:List AtE) (what:List UInt8) (w:World) (hv:Vw w gv x b) (hr:RA w B A L) (hB:B≤w.heap.size) (hn:L.length=n) (hl:n≤100000000) :
  Calls Tryd.prog 63 #[.pointer (some ⟨gv,0,none⟩),.slice A n c,.string ⟨what.toArray⟩] w (NamP L w (namK x.p.pool what (L.map AtE.p))):=by
 obtain⟨R,hR⟩:∃R,namK x.p.pool what (L.map AtE.p)=R:=⟨_,rfl⟩;rw[hR];have HR:=bx hR;have HV:=bx hv;have V6:=bx hr;have HN:=bx hn;clear hv hr hR hn
 go_enter Tryd.func63,Tryd.ntmps63
 go_wp2_with fail
 go_loopw [7,12] (fun v iv wx=>∃(i:Nat) (ps:List Sl),i≤n∧iv = .int .i64 (i:Int)∧Bx (ps.length≤i∧OwS slC 1 wx w.heap.size 28 v ps∧(∀p∈ps,∃a∈L,a.s=p)∧Below w.heap.size w wx∧NamI x.p.pool what (L.map AtE.p) i (ps.map (·.l)))) (fun _ iv _=>n-(intOf iv).toNat)
 case atStart=>exact⟨0,[],by omega,rfl,bx ⟨Z00 _,OwS.nil,fun p hp=>(by cases hp),Below.refl _ _,NamI.start⟩⟩
 case round=>
  obtain⟨i,ps,hi,rfl,Zs⟩:=hrel;obtain⟨A2,c2_,hv2,_,_⟩:=OwS.rd Zs.out.2.1;obtain⟨n2,hn2⟩:∃n2,ps.length=n2:=⟨_,rfl⟩;rw[hn2]at hv2;subst hv2;have Ts:=bx hn2;clear hn2;by_cases hin:i<n
  ·have hiI:(i:Int)<(n:Int):=by omega
   obtain⟨ad,a,rfl,hab,HA,c0,c1,Vy⟩:=RA.at_ (V6.out.below Zs.out.2.2.2.1 hB) (k:=i) (by rw[HN.out];exact hin);go_wp2_with fail
   have hb1:=Y9z (Below.refl wr.heap.size wr) (Z00 _) (.cells #[.int .i64 a.name,.slice a.s.A a.s.n a.s.c] 41);have Wd:=bx (Bk.new wr 41 #[.int .i64 a.name,.slice a.s.A a.s.n a.s.c]);have Sg:=bx (Zs.out.2.1.step hb1);have Zl:=bx (Zs.out.2.2.2.1.trans (hb1.mono Zs.out.2.2.2.1.size));have Bs:Bx ((L.map AtE.p)[i]? = some a.p):=bx (by rw[List.getElem?_map,HA.out];rfl);have Qh:Bx (a∈L):=bx (Z16 HA.out);generalize hw1:wr.alloc (.cells #[.int .i64 a.name,.slice a.s.A a.s.n a.s.c] 41)=w1 at Sg Zl Wd hb1 ⊢;have HG:Bx (wr.heap.size<w1.heap.size):=bx (by rw[←hw1];simp);clear hw1 hb1 HA c0 c1 Vy;refine Y9f (x:=x) (b:=b) a.name (HV.out.below Zl.out) ?_ ?_
   ·intro h w2 hb
    have HX:Bx (R=none):=bx (by rw[←HR.out];exact Zs.out.2.2.2.2.stop Bs.out h);go_wp2;rw[HX.out];exact⟨rfl,rfl,Zl.out.trans (hb.mono Zl.out.size)⟩
   intro s hs w2 hb;have HT:Bx (txtK x.p.pool a.name=some s):=bx hs;have Wm:=bx (Zl.out.trans (hb.mono Zl.out.size));have Wf:=bx (Sg.out.step hb);have R0:=bx (Wd.out.below hb HG.out);have Zc:Bx (wr.heap.size<w2.heap.size):=bx (Z07 HG.out hb.size);have Jg:=bx (Zs.out.2.2.2.2.next Bs.out HT.out);have Xl:Bx (ps.length≤i∧∀p∈ps,∃a∈L,a.s=p):=bx ⟨Zs.out.1,Zs.out.2.2.1⟩;clear hs hb Sg Zl Wd HG Zs HT
   go_upto_if 21 with(fail)
   obtain⟨qb,hqb⟩:∃qb,(s==what)=qb:=⟨_,rfl⟩;rw[hqb];have Tr:Bx (qb=false→s≠what):=bx (fun e=>by rw[e]at hqb;intro e2;rw[e2]at hqb;simp at hqb);have Tq:Bx (qb=true→s=what):=bx (fun e=>by rw[e]at hqb;exact eq_of_beq hqb);clear hqb;cases qb with
   | false=>
    have Q9:Bx (NamI x.p.pool what (L.map AtE.p) (i+1) (ps.map (·.l))):=bx (by have:=Jg.out;rwa [if_neg (Tr.out rfl)]at this);go_wp2_with fail
    go_roundw
    case rel=>exact⟨i+1,ps,by omega,by go_num,bx ⟨by have:=Xl.out.1;omega,Wf.out,Xl.out.2,Wm.out,Q9.out⟩⟩
    case measure=>simp [intOf];omega
   | true=>
   have Q9:Bx (NamI x.p.pool what (L.map AtE.p) (i+1) ((ps++[a.s]).map (·.l))):=bx (by have:=Jg.out;rw[if_pos (Tq.out rfl)]at this;rw[Z34];exact this);have hg:=Zc.out;have hcl:w2.cell? ⟨wr.heap.size,1,none⟩=some (.slice a.s.A a.s.n a.s.c):=(R0.out.cell 1).trans rfl;have Zd:=bx (RS.new (fC:=slC) w2 a.s #[.slice a.s.A a.s.n a.s.c] rfl 28 (0,0));have Lc:Bx ((ps.length+[a.s].length)*24≤140737488355328):=bx (by simp only[Z11,Z13];have:=Xl.out.1;omega);have hz:w.heap.size≤w2.heap.size:=Wm.out.size;clear Jg Tr Tq;go_wp2_with (at_builtin;refine Y9y _ slCels rfl (.tmp 22) (.tmp 25) rfl slTy (by decide) w.heap.size (.slice A2 n2 c2_) ps rfl (OwS.alloc Wf.out _) (w2.heap.size+1) (some ⟨w2.heap.size,0,none⟩) 1 1 [a.s] rfl rfl Zd.out Lc.out (Y5f hz _) ?_;intro V7 w7 hO7 hg7 hv7 hb7;have Qo:=bx hO7;have Xh:=bx hb7)
   go_roundw
   case rel=>
    exact⟨i+1,ps++[a.s],by omega,by go_num,bx ⟨by have:=Xl.out.1;simp only[Z09,Z11,Z13];omega,Qo.out,fun p hp=>by
     rcases Z41.1 hp with h | h
     ·exact Xl.out.2 p h
     ·have e:p=a.s:=by simpa using h
      exact⟨a,Qh.out,e.symm⟩,((Wm.out.trans (Y9z (Below.refl _ w2) hz _))).trans Xh.out,Q9.out⟩⟩
   case measure=>simp [intOf];omega
  ·have hiI:¬(i:Int)<(n:Int):=by omega
   have HE:Bx (i=(L.map AtE.p).length):=bx (by rw[Z17,HN.out];omega);have HX:Bx (R=some (ps.map (·.l))):=bx (by have h1:=Zs.out.2.2.2.2;rw[HE.out]at h1;exact HR.out.symm.trans h1.done);go_wp2;go_ret;rw[HX.out];exact⟨⟨A2,n2,c2_,ps,rfl,Zs.out.2.1,rfl,Zs.out.2.2.1⟩,Zs.out.2.2.2.1⟩
open Go.RowKit
set_option linter.unusedSimpArgs false
theorem Y6w (a b:Nat) (ha:a<65536) (hb:b<65536):bits .and .i64 (a:Int) (b:Int)=((a &&& b:Nat):Int):=
 (bits_nat .i64 16 (by decide) (fun n h1 h2=>by rw[IntKind.wrap_i64];omega) a b ha hb).1
theorem Y2q (n m:Nat) (hn:n<65536) (hm:m<65536):(n &&& (2 ^ 64-1-m)=0)↔n &&& m=n:=by
 constructor
 ·intro h
  refine Nat.eq_of_testBit_eq fun i=>?_;have h1:=congrArg (fun z=>z.testBit i) h;simp only[Nat.testBit_and,Nat.zero_testBit]at h1 ⊢;rw[show 2 ^ 64-1-m=2 ^ 64-(m+1) by omega,Nat.testBit_two_pow_sub_succ (by omega)]at h1;cases hb:n.testBit i with
  | false=>rfl
  | true=>
   rw[hb]at h1
   have hi:i<64:=by
    rcases Nat.lt_or_ge i 64 with h | h
    ·exact h
    ·rw[Nat.testBit_lt_two_pow (Z07 (show n<2 ^ 64 by omega) (Nat.pow_le_pow_right (by decide) h))]at hb
     cases hb
   simp [hi]at h1;simp [h1]
 ·intro h
  refine Nat.eq_of_testBit_eq fun i=>?_;have h1:=congrArg (fun z=>z.testBit i) h;simp only[Nat.testBit_and,Nat.zero_testBit]at h1 ⊢;rw[show 2 ^ 64-1-m=2 ^ 64-(m+1) by omega,Nat.testBit_two_pow_sub_succ (by omega)];cases hb:n.testBit i with
  | false=>rfl
  | true=>
   rw[hb]at h1
   have:m.testBit i=true:=by simpa using h1
   simp [this]
theorem X7y (a b:Nat) (ha:a<65536) (hb:b<65536):bits .andNot .i64 (a:Int) (b:Int)=((a &&& (2 ^ 64-1-b):Nat):Int):=by
 have hx:a &&& (2 ^ 64-1-b)≤a:=Nat.and_le_left;show IntKind.i64.wrap ((BitVec.ofInt 64 (a:Int) &&& ~~~BitVec.ofInt 64 (b:Int)).toNat:Int)=_;rw[BitVec.toNat_and,BitVec.toNat_not,BitVec.ofInt_natCast,BitVec.ofInt_natCast,BitVec.toNat_ofNat,BitVec.toNat_ofNat,Nat.mod_eq_of_lt (by omega),Nat.mod_eq_of_lt (by omega),IntKind.wrap_i64];omega
theorem W7d (n m:Nat) (hn:n<65536) (hm:m<65536):(bits .andNot .i64 (n:Int) (m:Int)==0)=bitsK n m:=by
 rw[X7y n m hn hm];unfold bitsK;by_cases h:n &&& m=n
 ·rw[Z47 h,(Y2q n m hn hm).2 h]
  rfl
 ·rw[Z48 h]
  have:n &&& (2 ^ 64-1-m)≠0:=fun e=>h ((Y2q n m hn hm).1 e)
  generalize n &&& (2 ^ 64-1-m)=z at this ⊢
  simp;omega
theorem Y6o (n m:Nat) (w:World) (hn:n<65536) (hm:m<65536):Calls Tryd.prog 40 #[.int .i64 (n:Int),.int .i64 (m:Int)] w fun e w'=>e = .returned (.bool (bitsK n m))∧w'=w:=by
 have HB:=bx (W7d n m hn hm)
 go_enter Tryd.func40,Tryd.ntmps40
 go_wp2;go_ret;exact⟨by rw[←HB.out];rfl,rfl⟩
theorem first3 (a:Nat) (ha:a<8):(bits .and .i64 (a:Int) ((a:Int)-1)==0)=decide (a=0∨a=1∨a=2∨a=4):=by
 have h8:a=0∨a=1∨a=2∨a=3∨a=4∨a=5∨a=6∨a=7:=(by omega);rcases h8 with rfl | rfl | rfl | rfl | rfl | rfl | rfl | rfl <;> decide
theorem Y4h {R:Ending→World→Prop} (n m:Nat) (w:World) (hn:n<65536) (hm:m<65536)
  (hno:accK n m=false→R (.panicked brkC) w) (hyes:accK n m=true→R (.returned (.tuple #[])) w):Calls Tryd.prog 62 #[.int .i64 (n:Int),.int .i64 (m:Int)] w R:=by
 have Yh:=bx hno;have Q8:=bx hyes;obtain⟨a,ha⟩:∃a,n &&& 7=a:=⟨_,rfl⟩;have ha8:a<8:=by rw[←ha];exact Nat.lt_succ_of_le Nat.and_le_right
 have h7:bits .and .i64 (n:Int) 7=(a:Int):=by rw[←ha];exact Y6w n 7 hn (by decide)
 obtain⟨q,hq⟩:∃q,decide (a=0∨a=1∨a=2∨a=4)=q:=⟨_,rfl⟩;have hqb:(bits .and .i64 (a:Int) ((a:Int)-1)==0)=q:=(first3 a ha8).trans hq;obtain⟨z,hz⟩:∃z,bitsK n m=z:=⟨_,rfl⟩;have Jf:Bx (accK n m=(z&&q)):=bx (by unfold accK;rw[hz,ha,hq]);have HB:=bx (Y6o n m w hn hm);rw[hz]at HB;clear hno hyes ha hq hz hn hm
 go_enter Tryd.func62,Tryd.ntmps62
 go_wp2_with fail
 refine HB.out.mono ?_;rintro e w2 ⟨rfl,hw⟩;obtain rfl:w=w2:=hw.symm;clear HB;cases z with
 | false=>
  go_wp2_with fail
  refine Y9w _ (fun _=>?_) (fun e=>by cases e);go_wp2;exact⟨rfl,Yh.out (by rw[Jf.out];rfl)⟩
 | true=>
  cases q with
  | false=>
   go_wp2_with fail
   refine Y9w _ (fun _=>?_) (fun e=>by cases e);go_wp2;exact⟨rfl,Yh.out (by rw[Jf.out];rfl)⟩
  | true=>
   go_wp2_with fail
   refine Y9w _ (fun e=>by cases e) (fun _=>?_);go_wp2
   go_end0
   exact Q8.out (by rw[Jf.out];rfl)
open Go.RowKit
section
variable {R:Ending→World→Prop} {x:ImE} {b:Bool} {w:World} {gv:Nat}
theorem Y7m (s:List UInt8) (meth:Bool) (hs:s.length≤2000000) (h:R (.returned (.bool (memberB s meth))) w) :
  Calls Tryd.prog 59 #[.string ⟨s.toArray⟩,.bool meth] w R:=by
 refine(X7s ⟨s.toArray⟩ meth w (by show s.toArray.size≤_;rw[List.size_toArray];omega)).mono ?_
 rintro e w' ⟨rfl,hw⟩;obtain rfl:w=w':=hw;exact h
theorem Y3h (s:List UInt8) (hv:Vw w gv x b) (hs:s.length≤2000000) (h:∀w',Below w.heap.size w w'→R (.returned (.bool (descB s))) w') :
  Calls Tryd.prog 58 #[.string ⟨s.toArray⟩] w R:=by
 obtain⟨m,hm⟩:=hv.mx.2
 refine(Y3u ⟨s.toArray⟩ m w (by show s.toArray.size≤_;rw[List.size_toArray];omega) hm).mono ?_
 rintro e w' ⟨rfl,hb⟩;exact h w' hb
theorem X5f (s:List UInt8) (hv:Vw w gv x b) (hs:s.length≤2000000) (h:∀w',Below w.heap.size w w'→R (.returned (.bool (classOk s))) w') :
  Calls Tryd.prog 57 #[.string ⟨s.toArray⟩] w R:=by
 obtain⟨m,hm⟩:=hv.mx.2
 refine(Y6k ⟨s.toArray⟩ m w (by show s.toArray.size≤_;rw[List.size_toArray];omega) hm).mono ?_
 rintro e w' ⟨rfl,hb⟩;exact h w' hb
theorem X3l (s:List UInt8) (h:R (.returned (.int .i64 (slotsN s))) w):Calls Tryd.prog 65 #[.string ⟨s.toArray⟩] w R:=by
 refine(Y2a ⟨s.toArray⟩ w).mono ?_
 rintro e w' ⟨rfl,hw⟩;obtain rfl:w=w':=hw;exact h
theorem X9o (s:List UInt8) (hv:Vw w gv x b) (hs:s.length≤2000000)
  (hno:methB s=none→∀A n c r k w',k≠0→Below w.heap.size w w'→R (.returned (.tuple #[.slice A n c,.string r,.int .i64 k])) w')
  (hyes:∀ps rs,methB s=some (ps,rs)→∀A n c w',ps.length=n→RL strV w' w'.heap.size A ps→Below w.heap.size w w'→R (.returned (.tuple #[.slice A n c,.string ⟨rs.toArray⟩,.int .i64 0])) w') :
  Calls Tryd.prog 60 #[.string ⟨s.toArray⟩] w R:=by
 obtain⟨m,hm⟩:=hv.mx.2
 refine(Y0r ⟨s.toArray⟩ m w (by show s.toArray.size≤_;rw[List.size_toArray];omega) hm).mono ?_
 rintro e w' ⟨A,n,c,rfl,hn,hr,hb⟩;cases ho:methB s with
 | none=>have h1:=X9u (l:=s) ho;have h2:methV (⟨s.toArray⟩:ByteArray).data.toList=([],[],24):=h1;rw[h2];exact hno ho A n c _ 24 w' (by decide) hb
 | some pr=>obtain⟨ps,rs⟩:=pr;have h1:=Y2o (l:=s) ho;have h2:methV (⟨s.toArray⟩:ByteArray).data.toList=(ps,rs,0):=h1;rw[h2]at hn hr ⊢;exact hyes ps rs ho A n c w' hn hr hb
end
open Go.RowKit
theorem frTy:ETy Tryd.prog 49 77 (.agg #[.int .i64 0,.int .i64 0,.slice none 0 0,.slice none 0 0]) 4 64:=⟨Tryd.underlying49,info_parts (by kernel_rfl),rfl,by decide⟩
theorem Y3i:(Tryd.prog.info? 77).map (·.size)=some 4:=by kernel_rfl
def frR (pool:List Cst) (t:Nat):Kr Frm:=
 if t<64 then retK ⟨t,t,[],[]⟩
 else if t<128 then bndK (repK (vtK pool) 1) fun s=>retK ⟨t,(t:Int)-64,[],s⟩
 else if t=255 then bndK (numK 2 65535) fun d=>bndK (numK 2 64) fun n=>bndK (repK (vtK pool) n) fun l=>bndK (numK 2 64) fun m=>bndK (repK (vtK pool) m) fun s=>retK ⟨t,d,l,s⟩
 else ifK (decide (247≤t)) (bndK (numK 2 65535) fun d=>
  if t=247 then bndK (repK (vtK pool) 1) fun s=>retK ⟨t,d,[],s⟩
  else if 251<t then bndK (repK (vtK pool) (t-251)) fun l=>retK ⟨t,d,l,[]⟩
  else retK ⟨t,d,[],[]⟩)
section
variable {pool:List Cst} {l:List UInt8} {p1 p2 t:Nat}
theorem W6t (h:numK 1 255 l p1=some (t,p2)):frmK pool l p1=frR pool t l p2:=Y9v h
theorem W8l (h:numK 1 255 l p1=none):frmK pool l p1=none:=Y9u h
theorem frR_a (h:t<64):frR pool t=retK ⟨t,t,[],[]⟩:=by
 unfold frR;rw[if_pos h]
theorem W5a (h:¬t<64) (h2:t<128):frR pool t=bndK (repK (vtK pool) 1) fun s=>retK ⟨t,(t:Int)-64,[],s⟩:=by
 unfold frR;rw[if_neg h,if_pos h2]
theorem frR_c:frR pool 255=bndK (numK 2 65535) fun d=>bndK (numK 2 64) fun n=>bndK (repK (vtK pool) n) fun l=>bndK (numK 2 64) fun m=>bndK (repK (vtK pool) m) fun s=>retK ⟨255,d,l,s⟩:=by
 unfold frR;rw[if_neg (by decide),if_neg (by decide),if_pos rfl]
 rfl
theorem frR_e (h:¬t<128) (h2:t<247):frR pool t l p2=none:=by
 unfold frR;rw[if_neg (by omega),if_neg h,if_neg (by omega),Z48 (by omega)]
 rfl
theorem W5b (h:247≤t) (h2:t<255) (hd:numK 2 65535 l p2=none):frR pool t l p2=none:=by
 unfold frR;rw[if_neg (by omega),if_neg (by omega),if_neg (by omega),Z47 h];unfold ifK;rw[if_pos rfl];exact Y9u hd
theorem frR_d {d p3:Nat} (h:247≤t) (h2:t<255) (hd:numK 2 65535 l p2=some (d,p3)):frR pool t l p2=(if t=247 then bndK (repK (vtK pool) 1) fun s=>retK ⟨t,d,[],s⟩
  else if 251<t then bndK (repK (vtK pool) (t-251)) fun l=>retK ⟨t,d,l,[]⟩
  else retK ⟨t,d,[],[]⟩:Kr Frm) l p3:=by
 unfold frR;rw[if_neg (by omega),if_neg (by omega),if_neg (by omega),Z47 h];unfold ifK;rw[if_pos rfl];exact Y9v hd
end
def frmsR (pool:List Cst):Kr (List Frm):=bndK (numK 2 256) fun n=>bndK (repK (frmK pool) n) fun l=>bndK endK fun _=>retK l
def FrsP (B:Nat) (r:List Frm) (e:Ending) (w':World):Prop:=∃v L,e = .returned v∧OwX frC 4 FrX w' B 77 v L∧L.map FrE.p=r
theorem OwX.one {α:Type} {fC:α→List Value} {sz B g:Nat} {P:World→(Nat→Prop)→α→Prop} {T:TypeId} {v:Value} {L:List α} {w w':World} (hP:StepX P) (h:OwX fC sz P w B T v L) (c:Ch w w' (OneR g)) (hg:g<B):OwX fC sz P w' B T v L:=
 ⟨h.own.one c hg,fun x hx=>hP (h.sub x hx) (fun k hk=>c.same k hk.2.1 (fun e=>by have e:k=g:=e;have:=hk.1;omega)) (fun _ hk=>⟨hk.1,Z07 hk.2.1 c.size,hk.2.2⟩)⟩
theorem Y0l (gk gr gv lo:Nat) (l:List UInt8) (p:Nat) (x:ImE) (b:Bool) (w:World) (h:Krd w gk gr gv lo l p false x b) :
  Calls Tryd.prog 81 #[.pointer (some ⟨gk,0,none⟩)] w (KrP (frmsR x.p.pool l p) (FrsP w.heap.size) gk gr gv lo l x b w):=by
 obtain⟨R,hR⟩:∃R,frmsR x.p.pool l p=R:=⟨_,rfl⟩;rw[hR];have HR:=bx hR;have HK:=bx h;clear h hR
 go_enter Tryd.func81,Tryd.ntmps81
 go_wp2_with fail
 refine Y8x 2 256 HK.out (by decide) (by decide) ?_ ?_
 ·intro h w1 hc
  have HX:Bx (R=none):=bx (by rw[←HR.out];exact Y9u h);go_wp2;rw[HX.out];exact⟨rfl,rfl,hc⟩
 intro N p0 hN w1 hc1 hk1;have HN:=bx hN;have Zt:=bx hc1;have Yz:=bx hk1;have Mo:Bx (N≤256):=bx (Y7e hN);have Xd:Bx (R=bndK (repK (frmK x.p.pool) N) (fun l=>bndK endK fun _=>retK l) l p0):=bx (by rw[←HR.out];exact Y9v hN);clear hN hc1 hk1 HR;go_wp2_with fail
 go_loopw [3,4] (fun v nv wx=>∃(m j:Nat) (L:List FrE) (p1:Nat),j+m=N∧nv = .int .i64 (m:Int)∧Bx (L.length=j∧OwX frC 4 FrX wx w.heap.size 77 v L∧Krd wx gk gr gv lo l p1 false x b∧Ch w wx (OneR gr)∧RepK (frmK x.p.pool) l p0 N j (L.map FrE.p) p1)) (fun _ nv _=>(intOf nv).toNat)
 case atStart=>exact⟨N,0,[],p0,by omega,rfl,bx ⟨rfl,OwX.nil,Yz.out,Zt.out,RepK.start _ _ _ _⟩⟩
 case round=>
  obtain⟨m,j,L,p1,hj,rfl,Zs⟩:=hrel;obtain⟨A2,c2_,hv2,_,_⟩:=OwS.rd Zs.out.2.1.own;have HJ:=bx hj;have hm6:m≤256:=by have:=Mo.out;omega
  clear hj;by_cases hm:0<m
  ·have hmI:0<(m:Int):=by omega
   have hmd:decide (0<(m:Int))=true:=Z47 hmI
   have hstop:∀wq,frmK x.p.pool l p1=none→Ch wr wq (OneR gr)→KrP R (FrsP w.heap.size) gk gr gv lo l x b w (.panicked brkC) wq:=fun wq h c=>by
    have hX:R=none:=by rw[Xd.out];exact Y9u (Zs.out.2.2.2.2.stop (by have:=HJ.out;omega) h)
    rw[hX];exact⟨rfl,Zs.out.2.2.2.1.trans c (fun _ _ e=>e)⟩
   have Zw:=bx hstop;clear hstop;go_wp2_with fail
   refine Y8x 1 255 Zs.out.2.2.1 (by decide) (by decide) ?_ ?_
   ·intro h w2 hc
    go_wp2;exact⟨rfl,Zw.out _ (W8l h) hc⟩
   intro t p2 ht w2 hc2 hk2;have hst:=Kst.new (T:=77) #[.int .i64 (t:Int),.int .i64 0,.slice none 0 0,.slice none 0 0] hk2 hc2;have Sv:Bx (frmK x.p.pool l p1=frR x.p.pool t l p2):=bx (W6t ht);have ht5:t≤255:=Y7e ht;have HV:=bx hv2;clear ht hc2 hk2 hv2
   go_upto_block 2 with(fail)
   obtain⟨w3,hw3⟩:∃w3,w2.alloc (.cells #[.int .i64 (t:Int),.int .i64 0,.slice none 0 0,.slice none 0 0] 77)=w3:=⟨_,rfl⟩;obtain⟨g,hg⟩:∃g,w2.heap.size=g:=⟨_,rfl⟩;rw[hw3,hg]at hst;rw[hw3,hg];have Vh:=bx hst;clear hst hw3 hg
   go_cut [36] from 18 to 65 (fun _ wx=>∃(y:FrE) (p3:Nat),Bx (frmK x.p.pool l p1=some (y.p,p3)∧Kst 77 wr wx g gk gr gv lo l p3 x b #[.int .i64 y.tag,.int .i64 y.delta,y.l.v,y.s.v]∧FrX wx (fun k=>g≤k∧k<wx.heap.size) y))
   case first=>
    clear Zs Xd Yz Zt HN HK;have h12:=Vh.out.lt;have hgk:=Vh.out.kd.lt.1;by_cases ha:t<64
    ·have haI:(t:Int)<64:=by omega
     have had:decide ((t:Int)<64)=true:=Z47 haI;have hfz:=Vh.out.frz 1;have hcl:=Vh.out.cell (i:=1) rfl;go_wp2_with fail
     go_meet
     exact⟨⟨t,t,sq0,sq0⟩,p2,bx ⟨by rw[Sv.out,frR_a ha];rfl,Vh.out.set 1 _,⟨SqX.nil,SqX.nil⟩⟩⟩
    have haI:¬(t:Int)<64:=(by omega);have had:decide ((t:Int)<64)=false:=Z48 haI;by_cases hb:t<128
    ·have hbI:(t:Int)<128:=by omega
     have hbd:decide ((t:Int)<128)=true:=Z47 hbI;go_wp2_with fail
     refine Y7i 1 Vh.out.kd (by decide) ?_ ?_
     ·intro h w4 hc
      go_wp2;exact⟨rfl,Zw.out _ (by rw[Sv.out,W5a ha hb];exact Y9u h) (Vh.out.ch.trans hc (fun _ _ e=>e))⟩
     intro r p3 A4 n4 c4 hr w4 hc4 hk4 hO4;have Yn:=bx (Vh.out.step hc4 hk4);have Ro:=bx hO4;have Su:=bx hr;clear hr hc4 hk4 hO4;have hfz1:=Yn.out.frz 1;have hcl1:=Yn.out.cell (i:=1) rfl;have hfz3:=Yn.out.frz 3;have hcl3:=Yn.out.cell (i:=3) rfl;go_wp2_with fail
     go_meet
     exact⟨⟨t,(t:Int)-64,sq0,⟨A4,n4,c4,r⟩⟩,p3,bx ⟨by rw[Sv.out,W5a ha hb,Y9v Su.out];rfl,(Yn.out.set 1 _).set 3 _,⟨SqX.nil,SqX.of ((Ro.out.far h12).far h12) (fun k h1 h2=>⟨by omega,h2⟩)⟩⟩⟩
    have hbI:¬(t:Int)<128:=(by omega);have hbd:decide ((t:Int)<128)=false:=Z48 hbI;by_cases hc:t=255
    ·subst hc
     have Wt:Bx (frmK x.p.pool l p1=(bndK (numK 2 65535) fun d=>bndK (numK 2 64) fun n=>bndK (repK (vtK x.p.pool) n) fun l=>bndK (numK 2 64) fun m=>bndK (repK (vtK x.p.pool) m) fun s=>retK (⟨255,d,l,s⟩:Frm)) l p2):=bx (by rw[Sv.out,frR_c]);clear Sv;go_wp2_with fail
     refine Y8x 2 65535 Vh.out.kd (by decide) (by decide) ?_ ?_
     ·intro h w4 hc
      go_wp2;exact⟨rfl,Zw.out _ (by rw[Wt.out];exact Y9u h) (Vh.out.ch.trans hc (fun _ _ e=>e))⟩
     intro d p3 hr w4 hc4 hk4;have Yn:=bx (Vh.out.step hc4 hk4);have Cs:=bx (Wt.out.trans (Y9v hr));clear hr hc4 hk4 Wt Vh;have h12:=Yn.out.lt;have hgk:=Yn.out.kd.lt.1;have hfz1:=Yn.out.frz 1;have hcl1:=Yn.out.cell (i:=1) rfl;go_upto_region 19 with(fail)
     have Yf:=bx (Yn.out.set 1 (.int .i64 (d:Int)));generalize w4.setCell ⟨g,1,none⟩ (.int .i64 (d:Int))=w5 at Yf ⊢;clear Yn h12 hgk hfz1 hcl1;have h12:=Yf.out.lt;have hgk:=Yf.out.kd.lt.1;go_wp2_with fail
     refine Y8x 2 64 Yf.out.kd (by decide) (by decide) ?_ ?_
     ·intro h w6 hc
      go_wp2;exact⟨rfl,Zw.out _ (by rw[Cs.out];exact Y9u h) (Yf.out.ch.trans hc (fun _ _ e=>e))⟩
     intro n4 p4 hr w6 hc6 hk6;have Xx:=bx (Yf.out.step hc6 hk6);have Q7:=bx (Cs.out.trans (Y9v hr));have hn4:=Y7e hr;clear hr hc6 hk6 Cs Yf;go_wp2_with fail
     refine Y7i n4 Xx.out.kd (by omega) ?_ ?_
     ·intro h w7 hc
      go_wp2;exact⟨rfl,Zw.out _ (by rw[Q7.out];exact Y9u h) (Xx.out.ch.trans hc (fun _ _ e=>e))⟩
     intro r p5 A4 n5 c4 hr w7 hc7 hk7 hO7;have Wq:=bx (Xx.out.step hc7 hk7);have Qn:=bx (Q7.out.trans (Y9v hr));have Qo:=bx hO7;have hg7:=Xx.out.lt;clear hr hc7 hk7 Q7 Xx hO7 hn4 h12 hgk;have h12:=Wq.out.lt;have hgk:=Wq.out.kd.lt.1;have hfz1:=Wq.out.frz 2;have hcl1:=Wq.out.cell (i:=2) rfl;go_upto_region 20 with(fail)
     have Tw:=bx (Wq.out.set 2 (.slice A4 n5 c4));have Kp:=bx (Qo.out.far (i:=2) (u := .slice A4 n5 c4) hg7);generalize w7.setCell ⟨g,2,none⟩ (.slice A4 n5 c4)=w8 at Tw Kp ⊢;clear Wq Qo h12 hgk hfz1 hcl1;have h12:=Tw.out.lt;have hgk:=Tw.out.kd.lt.1;go_wp2_with fail
     refine Y8x 2 64 Tw.out.kd (by decide) (by decide) ?_ ?_
     ·intro h w9 hc
      go_wp2;exact⟨rfl,Zw.out _ (by rw[Qn.out];exact Y9u h) (Tw.out.ch.trans hc (fun _ _ e=>e))⟩
     intro n9 p9 hr w9 hc9 hk9;have Ym:=bx (Tw.out.step hc9 hk9);have St:=bx (Qn.out.trans (Y9v hr));have hn9:=Y7e hr;have Yc:=bx (Kp.out.one hc9 (by have:=Tw.out.lo;omega));clear hr hc9 hk9 Qn Tw Kp;go_wp2_with fail
     refine Y7i n9 Ym.out.kd (by omega) ?_ ?_
     ·intro h w10 hc
      go_wp2;exact⟨rfl,Zw.out _ (by rw[St.out];exact Y9u h) (Ym.out.ch.trans hc (fun _ _ e=>e))⟩
     intro r2 p10 A10 n10 c10 hr w10 hc10 hk10 hO10;have Vg:=bx (Ym.out.step hc10 hk10);have Ny:=bx (St.out.trans (Y9v hr));have Q6:=bx hO10;have Ko:=bx (Yc.out.one hc10 (by have:=Ym.out.lo;omega));have hg10:=Ym.out.lt;clear hr hc10 hk10 St Ym Yc hO10 hn9 h12 hgk;have h12:=Vg.out.lt;have hgk:=Vg.out.kd.lt.1;have hfz1:=Vg.out.frz 3;have hcl1:=Vg.out.cell (i:=3) rfl;go_wp2_with fail
     go_meet
     exact⟨⟨255,d,⟨A4,n5,c4,r⟩,⟨A10,n10,c10,r2⟩⟩,p10,bx ⟨Ny.out,Vg.out.set 3 _,⟨SqX.of (Ko.out.far hg7) (fun k h1 h2=>⟨by omega,h2⟩),SqX.of (Q6.out.far hg10) (fun k h1 h2=>⟨by omega,h2⟩)⟩⟩⟩
    have hcI:((t:Int)==255)=false:=by simp;omega
    by_cases hd:t<247
    ·have hdI:¬247≤(t:Int):=by omega
     have hdd:decide (247≤(t:Int))=false:=Z48 hdI;go_wp2_with fail
     refine Y9w _ (fun _=>?_) (fun e=>by cases e);go_wp2;exact⟨rfl,Zw.out _ (by rw[Sv.out,frR_e hb hd]) Vh.out.ch⟩
    have hdI:247≤(t:Int):=(by omega);have hdd:decide (247≤(t:Int))=true:=Z47 hdI;go_wp2_with fail
    refine Y9w _ (fun e=>by cases e) (fun _=>?_);go_wp2_with fail
    refine Y8x 2 65535 Vh.out.kd (by decide) (by decide) ?_ ?_
    ·intro h w4 hc
     go_wp2;exact⟨rfl,Zw.out _ (by rw[Sv.out];exact W5b (by omega) (by omega) h) (Vh.out.ch.trans hc (fun _ _ e=>e))⟩
    intro d p3 hr w4 hc4 hk4;have Yn:=bx (Vh.out.step hc4 hk4);have Su:=bx (frR_d (pool:=x.p.pool) (t:=t) (by omega) (by omega) hr);clear hr hc4 hk4;have hg4:=Yn.out.lt;have hgk4:=Yn.out.kd.lt.1;have hfz1:=Yn.out.frz 1;have hcl1:=Yn.out.cell (i:=1) rfl;go_upto_region 9 with(fail)
    have Yf:=bx (Yn.out.set 1 (.int .i64 (d:Int)));generalize w4.setCell ⟨g,1,none⟩ (.int .i64 (d:Int))=w5 at Yf ⊢;clear Yn hg4 hgk4 hfz1 hcl1 Vh h12 hgk;have h12:=Yf.out.lt;have hgk:=Yf.out.kd.lt.1;by_cases h47:t=247
    ·have h47I:((t:Int)==247)=true:=by simp;omega
     have h51I:¬251<(t:Int):=(by omega);have h51d:decide (251<(t:Int))=false:=Z48 h51I;have Qn:Bx (frmK x.p.pool l p1=bndK (repK (vtK x.p.pool) 1) (fun s=>retK ⟨t,d,[],s⟩) l p3):=bx (by rw[Sv.out,Su.out,if_pos h47]);clear h47 Su Sv;go_wp2_with fail
     refine Y7i 1 Yf.out.kd (by decide) ?_ ?_
     ·intro h w7 hc
      go_wp2;exact⟨rfl,Zw.out _ (by rw[Qn.out];exact Y9u h) (Yf.out.ch.trans hc (fun _ _ e=>e))⟩
     intro r p5 A4 n5 c4 hr w7 hc7 hk7 hO7;have Wq:=bx (Yf.out.step hc7 hk7);have Ta:=bx (Qn.out.trans (Y9v hr));have Qo:=bx hO7;have hg7:=h12;clear hr hc7 hk7 Qn Yf hO7 h12 hgk;have h12:=Wq.out.lt;have hgk:=Wq.out.kd.lt.1;have hfz1:=Wq.out.frz 3;have hcl1:=Wq.out.cell (i:=3) rfl;go_wp2_with fail
     go_meet
     exact⟨⟨t,d,sq0,⟨A4,n5,c4,r⟩⟩,p5,bx ⟨Ta.out,Wq.out.set 3 _,⟨SqX.nil,SqX.of (Qo.out.far hg7) (fun k h1 h2=>⟨by omega,h2⟩)⟩⟩⟩
    ·have h47I:((t:Int)==247)=false:=by simp;omega
     by_cases h51:251<t
     ·have h51I:251<(t:Int):=by omega
      have h51d:decide (251<(t:Int))=true:=Z47 h51I;obtain⟨n4,hn4⟩:∃n4,t-251=n4:=⟨_,rfl⟩;have hn4I:(t:Int)-251=(n4:Int):=(by omega);have hn49:n4≤10:=(by omega);have Qn:Bx (frmK x.p.pool l p1=bndK (repK (vtK x.p.pool) n4) (fun s=>retK ⟨t,d,s,[]⟩) l p3):=bx (by rw[Sv.out,Su.out,if_neg h47,if_pos h51,hn4]);clear h47 Su Sv hn4;go_wp2_with fail
      refine Y7i n4 Yf.out.kd (by omega) ?_ ?_
      ·intro h w7 hc
       go_wp2;exact⟨rfl,Zw.out _ (by rw[Qn.out];exact Y9u h) (Yf.out.ch.trans hc (fun _ _ e=>e))⟩
      intro r p5 A4 n5 c4 hr w7 hc7 hk7 hO7;have Wq:=bx (Yf.out.step hc7 hk7);have Ta:=bx (Qn.out.trans (Y9v hr));have Qo:=bx hO7;have hg7:=h12;clear hr hc7 hk7 Qn Yf hO7 h12 hgk;have h12:=Wq.out.lt;have hgk:=Wq.out.kd.lt.1;have hfz1:=Wq.out.frz 2;have hcl1:=Wq.out.cell (i:=2) rfl;go_wp2_with fail
      go_meet
      exact⟨⟨t,d,⟨A4,n5,c4,r⟩,sq0⟩,p5,bx ⟨Ta.out,Wq.out.set 2 _,⟨SqX.of (Qo.out.far hg7) (fun k h1 h2=>⟨by omega,h2⟩),SqX.nil⟩⟩⟩
     ·have h51I:¬251<(t:Int):=by omega
      have h51d:decide (251<(t:Int))=false:=Z48 h51I;have Qn:Bx (frmK x.p.pool l p1=some (⟨t,d,[],[]⟩,p3)):=bx (by rw[Sv.out,Su.out,if_neg h47,if_neg h51];rfl);go_wp2_with fail
      go_meet
      exact⟨⟨t,d,sq0,sq0⟩,p3,bx ⟨Qn.out,Yf.out,⟨SqX.nil,SqX.nil⟩⟩⟩
   case rest=>
    obtain⟨y,p3,hC⟩:=hcut;obtain rfl:=HV.out;have Ym:=bx hC.out.2.1;have HX:=bx (Zs.out.2.2.2.2.next (by have:=HJ.out;omega) hC.out.1);have Ro:=bx (OwX.one (P:=FrX) frStep Zs.out.2.1 hC.out.2.1.ch HK.out.lt.2.1);have Lg:=bx Zs.out.1;have Lc:Bx ((L.length+[y].length)*64≤140737488355328):=bx (by simp only[Z11,Z13];have:=Zs.out.1;have:=HJ.out;have:=Mo.out;omega);have Xi:=bx (Zs.out.2.2.2.1.trans hC.out.2.1.ch (fun _ _ e=>e));have G0:Bx (w.heap.size≤g∧∀q,(Value.slice A2 L.length c2_).ownBlock=some q→q<g):=bx (by have h1:=hC.out.2.1.lo;have h2:=Zs.out.2.2.2.1.size;exact⟨by omega,fun q e=>by have:=(Zs.out.2.1.own.blk e).2;omega⟩);have c0:=Ym.out.cell (i:=0) rfl;have c1:=Ym.out.cell (i:=1) rfl;have c2:=Ym.out.cell (i:=2) rfl;have c3:=Ym.out.cell (i:=3) rfl;have Gd:Bx (FrX wc (Bff w.heap.size wc (.slice A2 L.length c2_)) y):=bx (hC.out.2.2.step (fun _ _=>rfl) (fun k hk=>⟨by have:=G0.out.1;have:=hk.1;omega,hk.2,fun e=>by have:=G0.out.2 k e;have:=hk.1;omega⟩));have Zd:=bx (RS.new (fC:=frC) wc y #[.int .i64 y.tag,.int .i64 y.delta,y.l.v,y.s.v] rfl 77 (0,0));have hz:w.heap.size≤wc.heap.size:=Xi.out.size;clear hC Zs HV Sv Vh;go_step;go_wp2_with (at_builtin;refine Y9y _ frCels rfl (.tmp 66) (.tmp 68) rfl frTy (by decide) w.heap.size (.slice A2 L.length c2_) L rfl (OwS.alloc Ro.out.own _) (wc.heap.size+1) (some ⟨wc.heap.size,0,none⟩) 1 1 [y] rfl rfl Zd.out Lc.out (Y5f hz _) ?_;intro V7 w7 hO7 hg7 hv7 hb7;have Qo:=bx hO7;have B0:=bx hg7;have HV7:=bx hv7)
    go_roundw
    case rel=>have hba:=Y9z (Below.refl wc.heap.size wc) (Z00 _) (.cells #[.int .i64 y.tag,.int .i64 y.delta,y.l.v,y.s.v] 77);have hcl:Ch wc w7 (fun k=>w.heap.size≤k):=Ch.of_low ((hba.mono hz).trans hb7);have hlt:=HK.out.lt;have hord:=HK.out.ord;have hox:=OwX.app (P:=FrX) frStep (OwX.step (P:=FrX) frStep Ro.out hba) (N:=[y]) (fun z hz=>by have e:z=y:=(by simpa using hz);subst e;exact Gd.out.step (fun k hk=>hba.block k hk.2.1) (fun k hk=>⟨hk.1,Z07 hk.2.1 hba.size,hk.2.2⟩)) Qo.out B0.out HV7.out;exact⟨m-1,j+1,L++[y],p3,by have:=HJ.out;omega,by go_num,bx ⟨by rw[Z09,Lg.out];rfl,hox,Ym.out.kd.far hcl (fun k hk e=>by have e:w.heap.size≤k:=e;omega),Xi.out.trans hcl (fun k hk e=>by have e:w.heap.size≤k:=e;omega),by rw[Z34];exact HX.out⟩⟩
    case measure=>simp [intOf];omega
  ·have hmI:¬0<(m:Int):=by omega
   have hmd:decide (0<(m:Int))=false:=Z48 hmI;have HE:Bx (j=N):=bx (by have:=HJ.out;omega);have hO9:=bx (show OwX frC 4 FrX wr w.heap.size 77 (.slice A2 L.length c2_) L from hv2 ▸ Zs.out.2.1);have hX:=Zs.out.2.2.2.2;rw[HE.out]at hX;have Ss:Bx (R=bndK endK (fun _=>retK (L.map FrE.p)) l p1):=bx (Xd.out.trans (Y9v hX.done));have Tj:=bx Zs.out.2.2.1;have Xk:=bx Zs.out.2.2.2.1;clear hX Zs Xd;go_wp2_with fail
   refine X4p Tj.out ?_ ?_
   ·intro h w8 hb8
    have Pn:Bx (R=none):=bx (by rw[Ss.out];exact Y9u h);go_wp2;rw[Pn.out];exact⟨rfl,rfl,Xk.out.trans (Ch.of_below (S:=OneR gr) hb8) (fun _ _ e=>e)⟩
   ·intro h w8 hb8
    have Pn:Bx (R=some (L.map FrE.p,p1)):=bx (by rw[Ss.out,Y9v h];rfl);obtain rfl:=hv2;go_wp2;go_ret;rw[Pn.out];exact⟨⟨⟨_,L,rfl,OwX.step (P:=FrX) frStep hO9.out hb8,rfl⟩,Tj.out.below hb8⟩,Xk.out.trans (Ch.of_below (S:=OneR gr) hb8) (fun _ _ e=>e)⟩
theorem X9i (pool:List Cst) (b:List UInt8):frmsK pool b=(frmsR pool b 0).map (·.1):=rfl
theorem X6y {R:Ending→World→Prop} {gk gr gv lo:Nat} {l:List UInt8} {x:ImE} {b:Bool} {w:World} (h:Krd w gk gr gv lo l 0 false x b)
  (hno:frmsK x.p.pool l=none→∀w',Ch w w' (OneR gr)→R (.panicked brkC) w')
  (hyes:∀L A n c,frmsK x.p.pool l=some (L.map FrE.p)→∀w',Ch w w' (OneR gr)→OwX frC 4 FrX w' w.heap.size 77 (.slice A n c) L→R (.returned (.slice A n c)) w') :
  Calls Tryd.prog 81 #[.pointer (some ⟨gk,0,none⟩)] w R:=by
 refine(Y0l gk gr gv lo l 0 x b w h).mono ?_
 intro e w' hp;obtain⟨hp,hc⟩:=hp;cases ho:frmsR x.p.pool l 0 with
 | none=>rw[ho]at hp;have hp:e = .panicked brkC:=hp;subst hp;exact hno (by rw[X9i,ho];rfl) _ hc
 | some r=>obtain⟨v,p'⟩:=r;rw[ho]at hp;obtain⟨⟨u,L,rfl,hO,hL⟩,hk⟩:=hp;obtain⟨A,c,rfl,_,_⟩:=hO.own.rd;exact hyes L A _ c (by rw[X9i,ho,←hL];rfl) _ hc hO
open Go.RowKit
set_option linter.unusedSimpArgs false
def frKs (f:FrE):Bool:=decide (f.l.n≤64∧f.s.n≤64)
def mtKs (m:MtE):Bool:=decide (m.code.n≤4096∧m.hs.n≤64∧m.fs.n≤256)&&m.fs.l.all frKs
theorem X9n {α:Type} {p q:α→Bool} {l:List α} (h:∀x∈l,p x=q x):l.all p=l.all q:=by
 induction l with
 | nil=>rfl
 | cons a r ih=>rw[List.all_cons,List.all_cons,h a (by simp),ih (fun x hx=>h x (by simp [hx]))]
theorem W6m {w:World} {X:Nat→Prop} {x:ClE} (h:ClX w X x):fitsK x.p x.pool.l=(decide (x.pool.n≤1024∧x.ifs.n≤64∧x.fls.n≤64∧x.mts.n≤64)&&x.mts.l.all mtKs):=by
 unfold fitsK;have e1:x.p.ifaces=x.ifs.l:=rfl;have e2:x.p.fields=x.fls.l:=rfl;have e3:x.p.methods=x.mts.l.map MtE.p:=rfl;rw[e1,e2,e3,Z17,h.ifs.1,h.fls.1,h.mts.1,h.pool.1,List.all_map];refine congrArg _ (X9n fun m hm=>?_);have hm:=h.mt m hm;show (decide (m.code.l.length≤4096∧m.hs.l.length≤64∧(m.fs.l.map FrE.p).length≤256)&&(m.fs.l.map FrE.p).all _)=_;rw[Z17,hm.code.1,hm.hs.1,hm.fs.1,List.all_map];refine congrArg _ (X9n fun f hf=>?_);have hf:=hm.fr f hf;show decide (f.l.l.length≤64∧f.s.l.length≤64)=_;rw[hf.l.1,hf.s.1]
 rfl
theorem Y1b {α:Type} {p:α→Bool} {l:List α} {j:Nat} {x:α} (h:l[j]? = some x) (hp:p x=false):l.all p=false:=by
 cases e:l.all p with
 | false=>rfl
 | true=>rw[Z31]at e;rw[e x (Z16 h)]at hp;cases hp
theorem Y1w {α:Type} {p:α→Bool} {l:List α} {j:Nat} {x:α} (h:l[j]? = some x) (hj:(l.take j).all p=true) (hp:p x=true):(l.take (j+1)).all p=true:=by
 rw[Z40,h,List.all_append,hj];simp [hp]
theorem X1j (x:ClE) (w:World) (hx:ClX w (fun k=>k<w.heap.size) x) :
  Calls Tryd.prog 9 #[.agg (clA x)] w fun e w'=>e = .returned (.bool (fitsK x.p x.pool.l))∧Below w.heap.size w w':=by
 have HX:=bx hx;obtain⟨q,hq⟩:∃q,fitsK x.p x.pool.l=q:=⟨_,rfl⟩;rw[hq];have HQ:Bx (q=(decide (x.pool.n≤1024∧x.ifs.n≤64∧x.fls.n≤64∧x.mts.n≤64)&&x.mts.l.all mtKs)):=bx (by rw[←hq];exact W6m hx);clear hx hq;obtain⟨ac,nm,su,⟨iA,i_n,ic,il⟩,⟨fA,fn,fc,fl⟩,⟨mA,mn,mc,ml⟩,⟨pA,pn,pc,pl⟩⟩:=x;unfold clA strQ Sq.v;dsimp only at HQ ⊢;have hk:=Bk.new w 27 #[.int .i64 ac,.string ⟨nm.toArray⟩,.string ⟨su.toArray⟩,.slice iA i_n ic,.slice fA fn fc,.slice mA mn mc,.slice pA pn pc];have hb:=Y9z (Below.refl w.heap.size w) (Z00 _) (.cells #[.int .i64 ac,.string ⟨nm.toArray⟩,.string ⟨su.toArray⟩,.slice iA i_n ic,.slice fA fn fc,.slice mA mn mc,.slice pA pn pc] 27);obtain⟨g,hg⟩:∃g,w.heap.size=g:=⟨_,rfl⟩;rw[hg]at hk
 go_enter Tryd.func9,Tryd.ntmps9
 go_upto_region 1 with(fail)
 (try rw[hg])
 generalize w.alloc (.cells #[.int .i64 ac,.string ⟨nm.toArray⟩,.string ⟨su.toArray⟩,.slice iA i_n ic,.slice fA fn fc,.slice mA mn mc,.slice pA pn pc] 27)=w1 at hk hb ⊢;have HK:=bx hk;have HB:=bx hb;have c3:w1.cell? ⟨g,3,none⟩=some (.slice iA i_n ic):=(hk.cell 3).trans rfl;have c4:w1.cell? ⟨g,4,none⟩=some (.slice fA fn fc):=(hk.cell 4).trans rfl;have c5:w1.cell? ⟨g,5,none⟩=some (.slice mA mn mc):=(hk.cell 5).trans rfl;have c6:w1.cell? ⟨g,6,none⟩=some (.slice pA pn pc):=(hk.cell 6).trans rfl;clear hk hb hg;by_cases hp:pn≤1024
 ·have hpI:¬(1024:Int)<(pn:Int):=by omega
  go_upto_if 23 with(fail)
  generalize hmx:(if (if i_n<fn then (fn:Int) else (i_n:Int))<(mn:Int) then (mn:Int) else if i_n<fn then (fn:Int) else (i_n:Int))=mx
  have hm9:(64:Int)<mx↔¬(i_n≤64∧fn≤64∧mn≤64):=by
   rw[←hmx]
   split <;> split <;> omega
  have Pm:=bx hm9;clear hmx hm9;by_cases h9:(64:Int)<mx
  ·have hq:q=false:=by rw[HQ.out,Z48 (fun h2=>Pm.out.1 h9 h2.2),Bool.false_and]
   subst hq;go_wp2;go_ret;exact⟨rfl,HB.out⟩
  ·have F9:Bx (i_n≤64∧fn≤64∧mn≤64):=bx (Decidable.byContradiction fun h=>h9 (Pm.out.2 h))
   have Xq:Bx (q=ml.all mtKs):=bx (by rw[HQ.out,Z47 ⟨hp,F9.out⟩,Z25]);have Gc:Bx (ml.length=mn):=bx HX.out.mts.1;have hmn:=F9.out.2.2;clear Pm HQ c3 c4 c6 hp hpI;go_wp2;clear c5
   go_loopw [27] (fun iv wx=>∃(j:Nat),j≤mn∧iv = .int .i64 (j:Int)∧Bx ((ml.take j).all mtKs=true)∧Bx (Below w.heap.size w wx)) (fun iv _=>mn-(intOf iv).toNat)
   case atStart=>exact⟨0,by omega,rfl,bx rfl,HB⟩
   case round=>
    obtain⟨j,hj,rfl,HA,HW⟩:=hrel;by_cases hjn:j<mn
    ·have hjI:(j:Int)<(mn:Int):=by omega
     obtain⟨ad,m,rfl,hlt,HT,q0,q1⟩:=((HX.out.mts.rs (fun _ h=>h)).below HW.out (Z00 _)).at_ mtCels (k:=j) (by rw[Gc.out];exact hjn);have Vi:=bx HT.out;have Xc:=bx (HX.out.mt m (Z16 Vi.out));obtain⟨mac,mnm,mds,mth,mst,mlo,⟨cA,cn,cc,cl⟩,⟨hA,hn,hc,hs⟩,⟨rA,rn,rc,rl⟩⟩:=m;have p0:=q0 _ rfl;have p1:=q1 0 _ rfl;have p2:=q1 1 _ rfl;have p3:=q1 2 _ rfl;have p4:=q1 3 _ rfl;have p5:=q1 4 _ rfl;have p6:=q1 5 _ rfl;have p7:=q1 6 _ rfl;have p8:=q1 7 _ rfl;simp only[Z22,Nat.reduceAdd]at p1 p2 p3 p4 p5 p6 p7 p8;unfold strQ at p1 p2;unfold slV at p6;unfold Sq.v at p7 p8;dsimp only at p6 p7 p8;clear q0 q1 HT hlt;obtain⟨C,hCs⟩:∃C,wr.heap.size=C:=⟨_,rfl⟩;have Yi:=bx (Bk.newAt wr 51 #[.int .i64 mac,.string ⟨mnm.toArray⟩,.string ⟨mds.toArray⟩,.bool mth,.int .i64 mst,.int .i64 mlo,.slice cA cn cc,.slice hA hn hc,.slice rA rn rc] hCs);have Yu:=bx (Y9z HW.out (Z00 _) (.cells #[.int .i64 mac,.string ⟨mnm.toArray⟩,.string ⟨mds.toArray⟩,.bool mth,.int .i64 mst,.int .i64 mlo,.slice cA cn cc,.slice hA hn hc,.slice rA rn rc] 51));have Ws:=bx hCs;clear hCs;go_upto_region 6 with(fail)
     rw[Ws.out];generalize wr.alloc (.cells #[.int .i64 mac,.string ⟨mnm.toArray⟩,.string ⟨mds.toArray⟩,.bool mth,.int .i64 mst,.int .i64 mlo,.slice cA cn cc,.slice hA hn hc,.slice rA rn rc] 51)=wb at Yi Yu ⊢;have b6:wb.cell? ⟨C,6,none⟩=some (.slice cA cn cc):=(Yi.out.cell 6).trans rfl;have b7:wb.cell? ⟨C,7,none⟩=some (.slice hA hn hc):=(Yi.out.cell 7).trans rfl;have b8:wb.cell? ⟨C,8,none⟩=some (.slice rA rn rc):=(Yi.out.cell 8).trans rfl;clear p0 p1 p2 p3 p4 p5 p6 p7 p8 Ws HW;have hno:¬(cn≤4096∧hn≤64∧rn≤256)→q=false:=fun h=>by rw[Xq.out];exact Y1b Vi.out (by unfold mtKs;dsimp only;rw[Z48 h,Bool.false_and])
     have Yh:=bx hno;clear hno;by_cases g1:cn≤4096
     ·have g1I:¬(4096:Int)<(cn:Int):=by omega
      by_cases g2:hn≤64
      ·have g2I:¬(64:Int)<(hn:Int):=by omega
       by_cases g3:rn≤256
       ·have g3I:¬(256:Int)<(rn:Int):=by omega
        have Td:Bx (cn≤4096∧hn≤64∧rn≤256):=bx ⟨g1,g2,g3⟩;have Ct:Bx (rl.length=rn):=bx Xc.out.fs.1;clear g1 g2 g3;go_wp2;have hrn:=Td.out.2.2;clear b6 b7 b8 g1I g2I g3I;obtain⟨wm,rfl⟩:∃wm,wm=wr:=⟨_,rfl⟩
        go_loopw [50] (fun iv wx=>∃(i:Nat),i≤rn∧iv = .int .i64 (i:Int)∧Bx ((rl.take i).all frKs=true)∧Bx (Below w.heap.size w wx)) (fun iv _=>rn-(intOf iv).toNat)
        case atStart=>exact⟨0,by omega,rfl,bx rfl,Yu⟩
        case round=>
         obtain⟨i,hi,rfl,Q5,U9⟩:=hrel;by_cases hin:i<rn
         ·have hiI:(i:Int)<(rn:Int):=by omega
          obtain⟨ad2,f,rfl,hlt,HT,q0,q1⟩:=((Xc.out.fs.rs (fun _ h=>h)).below U9.out (Z00 _)).at_ frCels (k:=i) (by rw[Ct.out];exact hin);have F8:=bx HT.out;obtain⟨tg,dl,⟨lA,ln,lc,ll⟩,⟨sA,sn,sc,sl⟩⟩:=f;have p0:=q0 _ rfl;have p1:=q1 0 _ rfl;have p2:=q1 1 _ rfl;have p3:=q1 2 _ rfl;simp only[Z22,Nat.reduceAdd]at p1 p2 p3;unfold Sq.v at p2 p3;dsimp only at p2 p3;clear q0 q1 HT hlt;obtain⟨C2,hCs⟩:∃C2,wr.heap.size=C2:=⟨_,rfl⟩;have Qm:=bx (Bk.newAt wr 77 #[.int .i64 tg,.int .i64 dl,.slice lA ln lc,.slice sA sn sc] hCs);have U8:=bx (Y9z U9.out (Z00 _) (.cells #[.int .i64 tg,.int .i64 dl,.slice lA ln lc,.slice sA sn sc] 77));have Ws:=bx hCs;clear hCs;go_upto_region 11 with(fail)
          rw[Ws.out];generalize wr.alloc (.cells #[.int .i64 tg,.int .i64 dl,.slice lA ln lc,.slice sA sn sc] 77)=wf at Qm U8 ⊢;have b2:wf.cell? ⟨C2,2,none⟩=some (.slice lA ln lc):=(Qm.out.cell 2).trans rfl;have b3:wf.cell? ⟨C2,3,none⟩=some (.slice sA sn sc):=(Qm.out.cell 3).trans rfl;clear p0 p1 p2 p3 Ws U9;have hno:¬(ln≤64∧sn≤64)→q=false:=fun h=>by rw[Xq.out];exact Y1b Vi.out (by unfold mtKs;dsimp only;rw[Y1b F8.out (by unfold frKs;dsimp only;exact Z48 h),Bool.and_false])
          have Br:=bx hno;clear hno;by_cases g1:ln≤64
          ·have g1I:¬(64:Int)<(ln:Int):=by omega
           by_cases g2:sn≤64
           ·have g2I:¬(64:Int)<(sn:Int):=by omega
            have N1:Bx ((rl.take (i+1)).all frKs=true):=bx (Y1w F8.out Q5.out (by unfold frKs;dsimp only;exact Z47 ⟨g1,g2⟩));clear g1 g2;go_wp2;go_roundw
            case rel=>exact⟨i+1,by omega,by go_num,N1,U8⟩
            case measure=>simp [intOf];omega
           ·have g2I:(64:Int)<(sn:Int):=by omega
            have hq:=Br.out (fun h=>g2 h.2);subst hq;clear g1 g2;go_wp2;go_ret;exact⟨rfl,U8.out⟩
          ·have g1I:(64:Int)<(ln:Int):=by omega
           have hq:=Br.out (fun h=>g1 h.1);subst hq;clear g1;go_wp2;go_ret;exact⟨rfl,U8.out⟩
         ·obtain rfl:i=rn:=by omega
          have hiI:¬(i:Int)<(i:Int):=(by omega);have N1:Bx ((ml.take (j+1)).all mtKs=true):=bx (Y1w Vi.out HA.out (by have h:=Q5.out;rw[Z15 (by rw[Ct.out];exact Z00 _)]at h;unfold mtKs;dsimp only;rw[Z47 Td.out,h,Bool.and_true]));clear Q5;go_wp2;go_roundw
          case rel=>exact⟨j+1,by omega,by go_num,N1,U9⟩
          case measure=>simp [intOf];omega
       ·have g3I:(256:Int)<(rn:Int):=by omega
        have hq:=Yh.out (fun h=>g3 h.2.2);subst hq;clear g1 g2 g3;go_wp2;go_ret;exact⟨rfl,Yu.out⟩
      ·have g2I:(64:Int)<(hn:Int):=by omega
       have hq:=Yh.out (fun h=>g2 h.2.1);subst hq;clear g1 g2;go_wp2;go_ret;exact⟨rfl,Yu.out⟩
     ·have g1I:(4096:Int)<(cn:Int):=by omega
      have hq:=Yh.out (fun h=>g1 h.1);subst hq;clear g1;go_wp2;go_ret;exact⟨rfl,Yu.out⟩
    ·obtain rfl:j=mn:=by omega
     have hjI:¬(j:Int)<(j:Int):=(by omega);have hq:q=true:=by rw[Xq.out];have:=HA.out;rwa [Z15 (by rw[Gc.out];exact Z00 _)]at this
     subst hq;go_wp2;go_ret;exact⟨rfl,HW.out⟩
 ·have hpI:(1024:Int)<(pn:Int):=by omega
  have hq:q=false:=(by rw[HQ.out,Z48 (fun h=>hp h.1),Bool.false_and]);subst hq;go_wp2;go_ret;exact⟨rfl,HB.out⟩
open Go.RowKit
def PreK (P Q:List Cst):Prop:=∀(i:Nat) (c:Cst),P[i]? = some c→Q[i]? = some c
theorem Y7y {α:Type} {b:Bool} {k:Option α} {x:α} (h:gdK b k=some x):b=true∧k=some x:=by
 unfold gdK at h
 split at h
 ·exact⟨‹_›,h⟩
 ·cases h
theorem Y5n {α:Type} {b:Bool} {k:Option α} {x:α} (hb:b=true) (h:k=some x):gdK b k=some x:=by unfold gdK;rw[if_pos hb,h]
theorem Y8s {α β:Type} {o:Option α} {f:α→Option β} {y:β} (h:o.bind f=some y):∃x,o=some x∧f x=some y:=Option.bind_eq_some_iff.1 h
section
variable {P Q:List Cst} (h:PreK P Q)
include h
theorem Y2x {i t:Int} (ht:tagK P i=t) (h0:t≠0):tagK Q i=t:=by
 unfold tagK at ht ⊢
 split at ht
 ·exact absurd ht.symm h0
 ·rename_i hi
  rw[if_neg hi];cases hc:P[i.toNat]? with
  | none=>rw[hc]at ht;exact absurd ht.symm h0
  | some c=>rw[hc]at ht;rw[h _ _ hc];exact ht
theorem Y7p {i:Int} {s:List UInt8} (ht:txtK P i=some s):txtK Q i=some s:=by
 unfold txtK at ht ⊢
 split at ht
 ·rename_i h1
  rw[if_pos (Y2x h h1 (by decide))];obtain⟨c,hc,hs⟩:=Option.map_eq_some_iff.1 ht;rw[h _ _ hc,←hs];rfl
 ·cases ht
theorem X3v {i:Int} {s:List UInt8} (ht:clsK P i=some s):clsK Q i=some s:=by
 unfold clsK at ht ⊢
 split at ht
 ·rename_i h1
  rw[if_pos (Y2x h h1 (by decide))];obtain⟨c,hc,hs⟩:=Y8s ht;rw[h _ _ hc];exact Y7p h hs
 ·cases ht
theorem plain_pre {i:Int} {s:List UInt8} (ht:plainK P i=some s):plainK Q i=some s:=by
 unfold plainK at ht ⊢;obtain⟨x,hx,hs⟩:=Y8s ht;rw[X3v h hx];exact hs
theorem W7w {c:Cst} (ht:cnsK P c=true):cnsK Q c=true:=by
 unfold cnsK at ht ⊢
 split at ht
 ·rename_i h1
  rw[if_pos h1];cases hx:txtK P c.a with
  | none=>rw[hx]at ht;cases ht
  | some s=>rw[hx]at ht;rw[Y7p h hx];exact ht
 ·rename_i h1
  rw[if_neg h1]
  split at ht
  ·rename_i h2
   rw[if_pos h2];rw[Z20]at ht ⊢;obtain⟨h3,h4⟩:=ht;obtain⟨s,hs⟩:=Option.isSome_iff_exists.1 h3;refine⟨by rw[plain_pre h hs];rfl,?_⟩;cases hp:P[c.b.toNat]? with
   | none=>rw[hp]at h4;cases h4
   | some p=>
    rw[hp]at h4;rw[h _ _ hp];dsimp only at h4 ⊢;cases hn:txtK P p.a with
    | none=>rw[hn]at h4;cases h4
    | some n=>
     cases hd:txtK P p.b with
     | none=>rw[hn,hd]at h4;cases h4
     | some d=>rw[hn,hd]at h4;rw[Y7p h hn,Y7p h hd];exact h4
  ·rename_i h2
   rw[if_neg h2]
omit h in
theorem Y9r {α β:Type} {A B:Kr α} {F G:α→Kr β} (hA:∀b p x,A b p=some x→B b p=some x) (hF:∀a b p x,F a b p=some x→G a b p=some x):∀b p x,bndK A F b p=some x→bndK B G b p=some x:=fun b p x hx=>by
 unfold bndK at hx ⊢;obtain⟨y,hy,hz⟩:=Y8s hx;rw[hA _ _ _ hy];exact hF _ _ _ _ hz
omit h in
theorem X2i {α:Type} {c:Bool} {A B:Kr α} (hA:∀b p x,A b p=some x→B b p=some x):∀b p x,ifK c A b p=some x→ifK c B b p=some x:=fun b p x hx=>by
 unfold ifK at hx ⊢
 split at hx
 ·rename_i hc;rw[if_pos hc];exact hA _ _ _ hx
 ·cases hx
omit h in
theorem Y3x {α:Type} {a b:Option α} (hA:∀x,a=some x→b=some x):∀c p x,optK a c p=some x→optK b c p=some x:=fun c p x hx=>by
 unfold optK at hx ⊢;obtain⟨y,hy,hz⟩:=Option.map_eq_some_iff.1 hx;rw[hA _ hy,←hz];rfl
theorem Y2v:∀b p x,vtK P b p=some x→vtK Q b p=some x:=by
 unfold vtK;refine Y9r (fun _ _ _ e=>e) fun k=>?_
 split
 ·exact Y9r (fun _ _ _ e=>e) fun i=>Y9r (Y3x fun x e=>X3v h e) fun s _ _ _ e=>e
 ·exact fun _ _ _ e=>e
omit h in
theorem Y6v {α:Type} {A B:Kr α} (hA:∀b p x,A b p=some x→B b p=some x):∀n b p x,repK A n b p=some x→repK B n b p=some x:=by
 intro n
 induction n with
 | zero=>exact fun _ _ _ e=>e
 | succ n ih=>exact Y9r hA fun x=>Y9r ih fun r _ _ _ e=>e
theorem W7e:∀b p x,frmK P b p=some x→frmK Q b p=some x:=by
 unfold frmK;refine Y9r (fun _ _ _ e=>e) fun t=>?_
 split
 ·exact fun _ _ _ e=>e
 ·split
  ·exact Y9r (Y6v (Y2v h) 1) fun s _ _ _ e=>e
  ·split
   ·exact Y9r (fun _ _ _ e=>e) fun d=>Y9r (fun _ _ _ e=>e) fun n=>Y9r (Y6v (Y2v h) n) fun l=>Y9r (fun _ _ _ e=>e) fun m=>Y9r (Y6v (Y2v h) m) fun s _ _ _ e=>e
   ·refine X2i (Y9r (fun _ _ _ e=>e) fun d=>?_)
    split
    ·exact Y9r (Y6v (Y2v h) 1) fun s _ _ _ e=>e
    ·split
     ·exact Y9r (Y6v (Y2v h) _) fun s _ _ _ e=>e
     ·exact fun _ _ _ e=>e
theorem X1z {b:List UInt8} {l:List Frm} (hx:frmsK P b=some l):frmsK Q b=some l:=by
 unfold frmsK at hx ⊢;obtain⟨y,hy,hz⟩:=Option.map_eq_some_iff.1 hx;rw[Y9r (fun _ _ _ e=>e) (fun n=>Y9r (Y6v (W7e h) n) fun l _ _ _ e=>e) _ _ _ hy,←hz];rfl
theorem W7r (n:Nat):∀b p x,hndK P n b p=some x→hndK Q n b p=some x:=by
 unfold hndK;refine Y9r (fun _ _ _ e=>e) fun f=>Y9r (fun _ _ _ e=>e) fun t=>Y9r (fun _ _ _ e=>e) fun a=>Y9r (fun _ _ _ e=>e) fun c=>?_
 split
 ·exact fun _ _ _ e=>e
 ·exact Y9r (Y3x fun x e=>plain_pre h e) fun s _ _ _ e=>e
theorem W7m:∀k seen fs b p x,atsK P k seen fs b p=some x→atsK Q k seen fs b p=some x:=by
 intro k
 induction k with
 | zero=>exact fun _ _ _ _ _ e=>e
 | succ k ih=>
  intro seen fs;unfold atsK;refine Y9r (fun _ _ _ e=>e) fun i=>Y9r (Y3x fun x e=>Y7p h e) fun w=>Y9r (fun _ _ _ e=>e) fun n=>Y9r (fun _ _ _ e=>e) fun d=>?_
  split
  ·exact X2i (Y9r (Y3x fun x e=>X1z h e) fun fs'=>ih true fs')
  ·exact ih seen fs
theorem W7o {least:Int} {b:List UInt8} {k:Cod} (hx:codK P least b=some k):codK Q least b=some k:=by
 unfold codK at hx ⊢;obtain⟨y,hy,hz⟩:=Option.map_eq_some_iff.1 hx;rw[Y9r (fun _ _ _ e=>e) (fun st=>Y9r (fun _ _ _ e=>e) fun lo=>Y9r (fun _ _ _ e=>e) fun n=>X2i (Y9r (fun _ _ _ e=>e) fun cd=>Y9r (fun _ _ _ e=>e) fun hh=>Y9r (Y6v (W7r h n) hh) fun hs=>Y9r (fun _ _ _ e=>e) fun k=>Y9r (W7m h k false []) fun fs _ _ _ e=>e)) _ _ _ hy,←hz];rfl
theorem X3h {what:List UInt8}:∀{l:List Att} {r:List (List UInt8)},namK P what l=some r→namK Q what l=some r:=by
 intro l
 induction l with
 | nil=>exact fun e=>e
 | cons a l ih=>
  intro r e;rw[namK]at e ⊢;cases hs:txtK P a.name with
  | none=>rw[hs]at e;cases e
  | some s=>
   cases hl:namK P what l with
   | none=>rw[hs,hl]at e;cases e
   | some r2=>rw[hs,hl]at e;rw[Y7p h hs,ih hl];exact e
end
theorem X9t {Q:List Cst} {what z:List UInt8} (hz:z≠what):∀{a:List Att},(∀x∈a,txtK Q x.name=some z)→∀{l:List Att} {r:List (List UInt8)},namK Q what l=some r→namK Q what (a++l)=some r:=by
 intro a
 induction a with
 | nil=>exact fun _ _ _ e=>e
 | cons x a ih=>intro ha l r e;rw[List.cons_append,namK,ha x (List.mem_cons_self ..),ih (fun y hy=>ha y (List.mem_cons_of_mem _ hy)) e];dsimp only;rw[if_neg hz]
theorem W8q {Q:List Cst} {what z:List UInt8} (hz:z≠what) {x:Att} (hx:txtK Q x.name=some z):∀{l:List Att} {r:List (List UInt8)},namK Q what l=some r→namK Q what (l++[x])=some r:=by
 intro l
 induction l with
 | nil=>intro r e;exact X9t hz (a:=[x]) (fun y hy=>by rcases Z23.1 hy with e2 | e2;rw[e2];exact hx;cases e2) e
 | cons a l ih=>
  intro r e;rw[List.cons_append,namK]at *;cases hs:txtK Q a.name with
  | none=>rw[hs]at e;cases e
  | some s=>
   cases hl:namK Q what l with
   | none=>rw[hs,hl]at e;cases e
   | some r2=>rw[hs,hl]at e;rw[ih hl];exact e
section
variable {P Q:List Cst} (h:PreK P Q) {z:List UInt8} (hz1:z≠cvN) (hz2:z≠cdN) {more:Att} (hm:txtK Q more.name=some z) (hl:P.length≤Q.length)
include h hm hl
include hz1 in
theorem W7f {i:Bool} {x:Mem} {f:Fld} (e:fldK P i x=some f):fldK Q i { x with attrs:=more::more::x.attrs }=some f:=by
 unfold fldK at e ⊢;obtain⟨n,hn,e⟩:=Y8s e;obtain⟨d,hd,e⟩:=Y8s e;obtain⟨hg,e⟩:=Y7y e;obtain⟨vs,hv,e⟩:=Y8s e;dsimp only;rw[Y7p h hn,Y7p h hd];refine Y5n hg ?_;have hnm:namK Q cvN (more::more::x.attrs)=some vs:=X9t hz1 (a:=[more,more]) (fun y hy=>by simp only[Z23,Z43,or_false,or_self]at hy;rw[hy];exact hm) (X3h h hv);rw[hnm];show (if _ then _ else _)=_
 split at e
 ·rename_i h1;rw[if_pos h1];exact e
 ·rename_i h1
  rw[if_neg h1]
  split at e
  ·split at e
   ·rename_i h2
    dsimp only at e ⊢;rw[if_pos h2];obtain⟨hg2,e⟩:=Y7y e;refine Y5n ?_ e;simp only[Z20,decide_eq_true_eq]at hg2 ⊢;exact⟨⟨⟨hg2.1.1.1,by omega⟩,hg2.1.2⟩,Y2x h hg2.2 hg2.1.2⟩
   ·cases e
  ·cases e
omit hl in
include hz2 in
theorem W6x {i:Bool} {x:Mem} {f:Mth} (e:mthK P i x=some f):mthK Q i { x with attrs:=x.attrs++[more] }=some f:=by
 unfold mthK at e ⊢;obtain⟨n,hn,e⟩:=Y8s e;obtain⟨d,hd,e⟩:=Y8s e;obtain⟨hg,e⟩:=Y7y e;obtain⟨pr,hp,e⟩:=Y8s e;obtain⟨hg2,e⟩:=Y7y e;dsimp only at e;obtain⟨hg3,e⟩:=Y7y e;obtain⟨hg4,e⟩:=Y7y e;obtain⟨cs,hc,e⟩:=Y8s e;dsimp only;rw[Y7p h hn,Y7p h hd];refine Y5n hg ?_;rw[hp];refine Y5n hg2 (Y5n hg3 (Y5n hg4 ?_));rw[W8q hz2 hm (X3h h hc)];show (if _ then _ else _)=_
 split at e
 ·rename_i h1;rw[if_pos h1];exact e
 ·rename_i h1
  rw[if_neg h1]
  split at e
  ·obtain⟨k,hk,e⟩:=Option.map_eq_some_iff.1 e
   rw[W7o h hk,←e];rfl
  ·cases e
end
theorem Y3w {α β:Type} {f g:α→Option β} {T:α→α} {key:β→List UInt8×List UInt8} (hf:∀x y,f x=some y→g (T x)=some y):∀{l:List α} {seen:List (List UInt8×List UInt8)} {r:List β},eachK f key l seen=some r→eachK g key (l.map T) seen=some r:=by
 intro l
 induction l with
 | nil=>exact fun e=>e
 | cons x l ih=>intro seen r e;rw[eachK]at e;rw[List.map_cons,eachK];obtain⟨y,hy,e⟩:=Y8s e;obtain⟨hg,e⟩:=Y7y e;obtain⟨r2,hr,e⟩:=Option.map_eq_some_iff.1 e;rw[hf x y hy];refine Y5n hg ?_;rw[ih hr,←e];rfl
def zzC:Cst:=⟨1,0,0,0,[90,122]⟩
def moreM (m:Img) (data:List UInt8):Att:=⟨m.pool.length,data⟩
def moreK (m:Img) (data:List UInt8):Img:=
 { m with pool:=m.pool++[zzC],attrs:=moreM m data::m.attrs,fields:=m.fields.map fun x=>{ x with attrs:=moreM m data::moreM m data::x.attrs },methods:=m.methods.map fun x=>{ x with attrs:=x.attrs++[moreM m data] } }
theorem X3d (P:List Cst) (c:Cst):PreK P (P++[c]):=fun i x hx=>by
 have hi:=(Z24.1 hx).1;rw[List.getElem?_append_left hi];exact hx
theorem W9m (m:Img) (data:List UInt8) (h1:1≤m.pool.length):txtK (m.pool++[zzC]) (moreM m data).name=some [90,122]:=by
 have e:((m.pool++[zzC])[m.pool.length]?)=some zzC:=(by simp);have ht:tagK (m.pool++[zzC]) (m.pool.length:Int)=1:=by unfold tagK;rw[if_neg (by omega),Z30,e];rfl
 show txtK (m.pool++[zzC]) (m.pool.length:Int)=_;unfold txtK;rw[if_pos ht,Z30,e];rfl
theorem X4s {m:Img} {c:Cls} {data:List UInt8} (h1:1≤m.pool.length) (e:readK m=some c):readK (moreK m data)=some c:=by
 have hp:=X3d m.pool zzC;have hz:=W9m m data h1;unfold readK at e ⊢;obtain⟨g1,e⟩:=Y7y e;obtain⟨nm,hn,e⟩:=Y8s e;obtain⟨g2,e⟩:=Y7y e;dsimp only at e;obtain⟨g3,e⟩:=Y7y e;obtain⟨g4,e⟩:=Y7y e;obtain⟨su,hs,e⟩:=Y8s e;obtain⟨ifs,hi,e⟩:=Y8s e;obtain⟨fs,hf,e⟩:=Y8s e;obtain⟨ms,hm,e⟩:=Option.map_eq_some_iff.1 e;refine Y5n ?_ ?_
 ·unfold poolK at g1 ⊢
  show (m.pool++[zzC]).all _=true;rw[List.all_append,Z20];refine⟨?_,by rfl⟩;rw[Z31]at g1 ⊢;exact fun x hx=>W7w hp (g1 x hx)
 ·show (plainK (m.pool++[zzC]) m.this).bind _=_
  rw[plain_pre hp hn];refine Y5n g2 ?_;dsimp only;refine Y5n g3 (Y5n g4 ?_)
  have hs2:(if nm=objN then gdK (decide (m.super=0∧m.ifaces=[]) && !decide (m.access.toNat &&& 512≠0)) (some []) else (plainK (m.pool++[zzC]) m.super).bind fun s=>gdK (!decide (m.access.toNat &&& 512≠0)||decide (s=objN)) (some s))=some su:=by
   split at hs
   ·rename_i h9;rw[if_pos h9];exact hs
   ·rename_i h9
    rw[if_neg h9];obtain⟨s,hs1,hs2⟩:=Y8s hs;rw[plain_pre hp hs1];exact hs2
  have hi2:=Y3w (T:=fun x=>x) (g:=plainK (m.pool++[zzC])) (fun x y hy=>plain_pre hp hy) hi;rw[List.map_id']at hi2;have hf2:=Y3w (T:=fun x:Mem=>{ x with attrs:=moreM m data::moreM m data::x.attrs }) (g:=fldK (m.pool++[zzC]) _) (fun x y hy=>W7f hp (by decide) hz (by simp) hy) hf;have hm2:=Y3w (T:=fun x:Mem=>{ x with attrs:=x.attrs++[moreM m data] }) (g:=mthK (m.pool++[zzC]) _) (fun x y hy=>W6x hp (by decide) hz hy) hm;show (Option.bind _ _)=_;refine Option.bind_eq_some_iff.2 ⟨su,hs2,Option.bind_eq_some_iff.2 ⟨ifs,hi2,Option.bind_eq_some_iff.2 ⟨fs,hf2,?_⟩⟩⟩;refine Option.map_eq_some_iff.2 ⟨ms,hm2,?_⟩;rw[←e];rfl
theorem Y8u {P Q:List Cst} (h:PreK P Q) {i t:Int} (ht:tagP P i=t) (h0:t≠0):tagP Q i=t:=Y2x h ht h0
theorem X4l {P Q:List Cst} (h:PreK P Q) {i:Nat} {c:Cst} (e:rightP P i c=true):rightP Q i c=true:=by
 unfold rightP at e ⊢
 split at e
 ·rename_i h0
  rw[if_pos h0];rw[decide_eq_true_eq]at e ⊢;refine⟨?_,e.2⟩;rcases e.1 with e1 | e1
  ·exact .inl e1
  ·obtain⟨x,hx,ht⟩:=Option.map_eq_some_iff.1 e1
   exact .inr (by rw[h _ _ hx,←ht];rfl)
 ·rename_i h0
  rw[if_neg h0];rw[Z20]at e ⊢;refine⟨e.1,?_⟩
  replace e:=e.2
  split at e
  ·rename_i h1;rw[if_pos h1];exact e
  ·rename_i h1
   rw[if_neg h1]
   split at e
   ·rename_i h2;rw[if_pos h2];exact e
   ·rename_i h2
    rw[if_neg h2]
    split at e
    ·rename_i h3
     rw[if_pos h3];rw[decide_eq_true_eq]at e ⊢;refine⟨?_,e.2⟩;obtain⟨x,hx,ht⟩:=Option.map_eq_some_iff.1 e.1;rw[h _ _ hx,←ht];rfl
    ·rename_i h3
     rw[if_neg h3]
     split at e
     ·rename_i h4
      rw[if_pos h4];rw[decide_eq_true_eq]at e ⊢;exact⟨Y8u h e.1 (by decide),e.2⟩
     ·rename_i h4
      rw[if_neg h4]
      split at e
      ·rename_i h5
       rw[if_pos h5];rw[decide_eq_true_eq]at e ⊢;exact⟨Y8u h e.1 (by decide),Y8u h e.2.1 (by decide),e.2.2⟩
      ·rename_i h5
       rw[if_neg h5]
       split at e
       ·rename_i h6
        rw[if_pos h6];rw[decide_eq_true_eq]at e ⊢;exact⟨Y8u h e.1 (by decide),Y8u h e.2.1 (by decide),e.2.2⟩
       ·cases e
theorem W7j {P Q:List Cst} (h:PreK P Q) {x:Att} (e:attOk P x=true):attOk Q x=true:=by
 unfold attOk at e ⊢;rw[Z20,decide_eq_true_eq]at e ⊢;exact⟨Y8u h e.1 (by decide),e.2⟩
structure RoomK (m:Img) (data:List UInt8):Prop where
 pool:m.pool.length<1024
 data:data.length≤32768
 attrs:m.attrs.length+1≤64
 fields:∀x∈m.fields,x.attrs.length+2≤64
 methods:∀x∈m.methods,x.attrs.length+1≤64
theorem X7a {m:Img} {data:List UInt8} (r:RoomK m data) (e:holdsP m=true):holdsP (moreK m data)=true:=by
 have hp:=X3d m.pool zzC;unfold holdsP at e ⊢;simp only[Z20]at e ⊢;obtain⟨⟨⟨⟨⟨⟨⟨e1,e2⟩,e3⟩,e4⟩,e5⟩,e6⟩,e7⟩,e8⟩:=e;have hpl:1≤m.pool.length:=by unfold headOk at e1;simp only[Z20,decide_eq_true_eq]at e1;exact e1.1.1.2.1
 have hmo:attOk (m.pool++[zzC]) (moreM m data)=true:=by
  unfold attOk;rw[Z20,decide_eq_true_eq,decide_eq_true_eq];have h9:=W9m m data hpl;unfold txtK at h9
  split at h9
  ·rename_i h8;exact⟨h8,r.data⟩
  ·cases h9
 have hat:∀l:List Att,attsOk m.pool l=true→l.all (attOk (m.pool++[zzC]))=true:=fun l hl=>by unfold attsOk at hl;rw[Z20]at hl;rw[Z31]at hl ⊢;exact fun x hx=>W7j hp (hl.1 x hx)
 refine⟨⟨⟨⟨⟨⟨⟨?_,?_⟩,?_⟩,?_⟩,?_⟩,?_⟩,?_⟩,?_⟩
 ·unfold headOk at e1 ⊢
  simp only[Z20,decide_eq_true_eq]at e1 ⊢;refine⟨⟨⟨e1.1.1.1,?_⟩,e1.1.2⟩,e1.2⟩;show 1≤(m.pool++[zzC]).length∧(m.pool++[zzC]).length≤1024;rw[Z09]
  have:=r.pool
  simp only[Z11,Z13];omega
 ·show rightsP (m.pool++[zzC])=true
  unfold rightsP at e2 ⊢;rw[Z31]at e2 ⊢;intro i hi;rw[Z39,Z09]at hi;rcases Nat.lt_or_ge i m.pool.length with hlt | hge
  ·have h1:=e2 i (Z39.2 hlt)
   rw[List.getElem?_append_left hlt];rw[Z33 hlt]at h1 ⊢;exact X4l hp h1
  ·obtain rfl:i=m.pool.length:=by simp only[Z11,Z13]at hi;omega
   have e9:(m.pool++[zzC])[m.pool.length]? = some zzC:=(by simp);rw[e9];show rightP _ _ zzC=true;unfold rightP;rw[if_neg (by decide),Z20,if_pos (by decide)];exact⟨by rw[decide_eq_true_eq];omega,by decide +kernel⟩
 ·show m.ifaces.all _=true
  rw[Z31]at e3 ⊢;intro i hi
  have:=e3 i hi
  rw[decide_eq_true_eq]at this ⊢;exact Y8u hp this (by decide)
 ·rw[decide_eq_true_eq]at e4 ⊢
  exact Y8u hp e4 (by decide)
 ·rw[decide_eq_true_eq]at e5 ⊢
  rcases e5 with e5 | e5
  ·exact .inl e5
  ·exact .inr (Y8u hp e5 (by decide))
 ·show memsOk (m.pool++[zzC]) (m.fields.map _)=true
  unfold memsOk at e6 ⊢;rw[Z20,Z31]at e6 ⊢;refine⟨fun x hx=>?_,by rw[Z17];exact e6.2⟩;obtain⟨y,hy,rfl⟩:=List.mem_map.1 hx;have h1:=e6.1 y hy;unfold memOk at h1 ⊢;simp only[Z20,decide_eq_true_eq]at h1 ⊢;refine⟨⟨⟨h1.1.1.1,Y8u hp h1.1.1.2 (by decide)⟩,Y8u hp h1.1.2 (by decide)⟩,?_⟩;unfold attsOk;rw[Z20,List.all_cons,List.all_cons,hmo,hat _ h1.2,decide_eq_true_eq];exact⟨rfl,by have:=r.fields y hy;simp only[Z11];omega⟩
 ·show memsOk (m.pool++[zzC]) (m.methods.map _)=true
  unfold memsOk at e7 ⊢;rw[Z20,Z31]at e7 ⊢;refine⟨fun x hx=>?_,by rw[Z17];exact e7.2⟩;obtain⟨y,hy,rfl⟩:=List.mem_map.1 hx;have h1:=e7.1 y hy;unfold memOk at h1 ⊢;simp only[Z20,decide_eq_true_eq]at h1 ⊢;refine⟨⟨⟨h1.1.1.1,Y8u hp h1.1.1.2 (by decide)⟩,Y8u hp h1.1.2 (by decide)⟩,?_⟩;unfold attsOk;rw[Z20,List.all_append,hat _ h1.2,decide_eq_true_eq];exact⟨by rw[List.all_cons,hmo];rfl,by have:=r.methods y hy;simp only[Z09,Z11,Z13];omega⟩
 ·show attsOk (m.pool++[zzC]) (moreM m data::m.attrs)=true
  have h1:=hat _ e8;unfold attsOk;rw[Z20,List.all_cons,hmo,h1,decide_eq_true_eq];exact⟨rfl,by have:=r.attrs;simp only[Z11];omega⟩
theorem W6q {m:Img} {c:Cls} {data:List UInt8} (r:RoomK m data) (e:ofP m=some c):ofP (moreK m data)=some c:=by
 unfold ofP at e ⊢
 split at e
 ·rename_i hh
  have hpl:1≤m.pool.length:=by unfold holdsP headOk at hh;simp only[Z20,decide_eq_true_eq]at hh;exact hh.1.1.1.1.1.1.1.1.1.2.1
  rw[if_pos (X7a r hh)];exact X4s hpl e
 ·cases e
end Go.Proofs.YtpmfiegfbmamiaaDoor
