/- Parts: Contracts: image.Text and Class. Contracts of klass: must, bits; a view's text, class, plain. Contracts of klass's reader: over, num, end. Contracts of klass: over, end; a reader's types. Contract of klass's reader: types. Steps of klass's walks: a call that may throw, both ways. Contract of klass's view: named. Contracts of klass: bits, access. Steps of klass's walks: calls of name's functions on texts. Contract of klass's reader: frames. Contract: klass.fits. Contract: samovarref14.SamePool: it reads alone (as XImL, for seats without SameMembers, SameAttrs). Contracts: (*image.sink).put over a growing row, attrs. -/
import Derived.Test.YtpmfiegfbmamiaaGreatDoorPk6
import Derived.Test.YtpmfiegfbmamiaaGreatDoorPk3
import Derived.Deep.RegionHeld3
import Derived.Test.YtpmfiegfbmamiaaGreatDoorPk2
import Derived.WalkLawsBesides
import Derived.Laws.BitsAllLaws
import Derived.Deep.RegionWith
import Derived.BigRegion
import Derived.Deep.CutBlock
import Derived.Test.YtpmfiegfbmamiaaGreatDoorPk5
import Derived.Test.YtpmfiegfbmamiaaGreatDoorPk4
namespace Go.Proofs.YtpmfiegfbmamiaaGreatDoor
set_option maxRecDepth 100000
set_option maxHeartbeats 8000000
open Go.RowKit
def textP (m:Img) (i:Int):List UInt8×Bool:=if tagP m.pool i=1 then match m.pool[i.toNat]? with
  | some c=>(c.text,true)
  | none=>([],false)
 else ([],false)
def classP (m:Img) (i:Int):List UInt8×Bool:=if tagP m.pool i=7 then match m.pool[i.toNat]? with
  | some c=>textP m c.a
  | none=>([],false)
 else ([],false)
def TextPost (r:List UInt8×Bool) (w:World) (e:Ending) (w':World):Prop:=e = .returned (.tuple #[.string ⟨r.1.toArray⟩,.bool r.2])∧Below w.heap.size w w'
theorem W7y {L:List Cst} {i t:Int} (h:tagP L i=t) (ht:t≠0):∃(k:Nat) (c:Cst),i=(k:Int)∧L[k]? = some c∧c.tag=t∧k<L.length:=by
 unfold tagP at h;by_cases h1:i<1
 ·rw[if_pos h1]at h;exact absurd h.symm ht
 rw[if_neg h1]at h;cases hc:L[i.toNat]? with
 | none=>rw[hc]at h;exact absurd h.symm ht
 | some c=>rw[hc]at h;exact⟨i.toNat,c,by omega,hc,h,(Z24.1 hc).1⟩
theorem Y1g (x:ImE) (i:Int) (w:World) (hx:RIm w w.heap.size x) :
  Calls Tryz.prog 106 #[.agg (imC x),.int .i64 i] w (TextPost (textP x.p i) w):=by
 obtain⟨T,hT⟩:∃T,textP x.p i=T:=⟨_,rfl⟩;rw[hT];have HT:=bx hT;clear hT;have HX:=bx hx;have hpb:(x.pn:Int)≤9223372036854775807:=by have:=hx.pl;omega
 obtain⟨cs,hcs⟩:∃cs,cs=imC x:=⟨_,rfl⟩;rw[←hcs];have Zb:=bx hcs;obtain⟨B,hB⟩:∃B,w.heap.size=B:=⟨_,rfl⟩;have Yz:=bx (Bk.newAt w 33 cs hB);have Tg:=bx (Y9z (Below.refl w.heap.size w) (Z00 _) (.cells cs 33));have HB:=bx hB;clear hx hcs hB
 go_enter Tryz.func106,Tryz.ntmps106
 go_upto_region 1 with(fail)
 rw[HB.out];generalize w.alloc (.cells cs 33)=wb at Yz Tg ⊢;have Jh:=bx (HX.out.up Tg.out);have f2:=Yz.out.im2 Zb.out;cases hq:decide (tagP x.pool i=1) with
 | false=>
  have HQ:=bx hq;have HN:Bx (T=([],false)):=bx (by rw[←HT.out];unfold textP;rw[if_neg (show ¬tagP x.p.pool i=1 from of_decide_eq_false hq)]);clear hq;go_wp2_with (go_at_call 49;refine(Y9h _ x.pn _ x.pool _ 1 wb HX.out.pl.1 hpb (by decide) Jh.out.pool).mono ?_;rintro e w' ⟨rfl,rfl⟩;rw[HQ.out])
  go_ret2;exact⟨by rw[HN.out];rfl,Tg.out⟩
 | true=>
  obtain⟨k,c,rfl,hc,hct,hk⟩:=W7y (Z48 hq) (by decide);have HQ:=bx hq;have hkn:k<x.pn:=by have:=HX.out.pl.1;omega
  have hkI:(k:Int)<(x.pn:Int):=(by omega);have hkJ:(0:Int)≤(k:Int):=(by omega);have hkK:(k:Int).toNat=k:=(by omega);have HN:Bx (T=(c.text,true)):=bx (by rw[←HT.out];unfold textP;rw[if_pos (show tagP x.p.pool (k:Int)=1 from Z48 hq),hkK];have hc:x.p.pool[k]? = some c:=hc;rw[hc]);obtain⟨ad,c',hA,_,HC',p0,p1,p2,p3,p4⟩:=Y6l Jh.out.pool (k:=k) hk;obtain rfl:c=c':=by have:=hc.symm.trans HC'.out;injection this
  rw[hA]at f2;have Br:Bx (RS cstC wb wb.heap.size (some ad) x.pool):=bx (by rw[←hA];exact Jh.out.pool);clear hq hc hct hk hA;go_wp2_with (go_at_call 49;refine(Y9h _ x.pn _ x.pool _ 1 wb HX.out.pl.1 hpb (by decide) Br.out).mono ?_;rintro e w' ⟨rfl,rfl⟩;rw[HQ.out])
  go_ret2;exact⟨by rw[HN.out];rfl,Tg.out⟩
theorem X7g (x:ImE) (i:Int) (w:World) (hx:RIm w w.heap.size x) :
  Calls Tryz.prog 110 #[.agg (imC x),.int .i64 i] w (TextPost (classP x.p i) w):=by
 obtain⟨T,hT⟩:∃T,classP x.p i=T:=⟨_,rfl⟩;rw[hT];have HT:=bx hT;clear hT;have HX:=bx hx;have hpb:(x.pn:Int)≤9223372036854775807:=by have:=hx.pl;omega
 obtain⟨cs,hcs⟩:∃cs,cs=imC x:=⟨_,rfl⟩;rw[←hcs];have Zb:=bx hcs;obtain⟨B,hB⟩:∃B,w.heap.size=B:=⟨_,rfl⟩;have Yz:=bx (Bk.newAt w 33 cs hB);have Tg:=bx (Y9z (Below.refl w.heap.size w) (Z00 _) (.cells cs 33));have HB:=bx hB;clear hx hcs hB
 go_enter Tryz.func110,Tryz.ntmps110
 go_upto_region 1 with(fail)
 rw[HB.out];generalize w.alloc (.cells cs 33)=wb at Yz Tg ⊢;have Jh:=bx (HX.out.up Tg.out);have f2:=Yz.out.im2 Zb.out;cases hq:decide (tagP x.pool i=7) with
 | false=>
  have HQ:=bx hq;have HN:Bx (T=([],false)):=bx (by rw[←HT.out];unfold classP;rw[if_neg (show ¬tagP x.p.pool i=7 from of_decide_eq_false hq)]);clear hq;go_wp2_with (go_at_call 49;refine(Y9h _ x.pn _ x.pool _ 7 wb HX.out.pl.1 hpb (by decide) Jh.out.pool).mono ?_;rintro e w' ⟨rfl,rfl⟩;rw[HQ.out])
  go_ret2;exact⟨by rw[HN.out];rfl,Tg.out⟩
 | true=>
  obtain⟨k,c,rfl,hc,hct,hk⟩:=W7y (Z48 hq) (by decide);have HQ:=bx hq;have hkn:k<x.pn:=by have:=HX.out.pl.1;omega
  have hkI:(k:Int)<(x.pn:Int):=(by omega);have hkJ:(0:Int)≤(k:Int):=(by omega);have hkK:(k:Int).toNat=k:=(by omega);have HN:Bx (T=textP x.p c.a):=bx (by rw[←HT.out];unfold classP;rw[if_pos (show tagP x.p.pool (k:Int)=7 from Z48 hq),hkK];have hc:x.p.pool[k]? = some c:=hc;rw[hc]);obtain⟨ad,c',hA,_,HC',p0,p1,p2,p3,p4⟩:=Y6l Jh.out.pool (k:=k) hk;obtain rfl:c=c':=by have:=hc.symm.trans HC'.out;injection this
  rw[hA]at f2;have Br:Bx (RS cstC wb wb.heap.size (some ad) x.pool):=bx (by rw[←hA];exact Jh.out.pool);have D1:=bx hA;clear hq hc hct hk hA;go_upto_region 3 with(go_at_call 49;refine(Y9h _ x.pn _ x.pool _ 7 wb HX.out.pl.1 hpb (by decide) Br.out).mono ?_;rintro e w' ⟨rfl,rfl⟩;rw[HQ.out])
  have f0:=Yz.out.im0 Zb.out;have f1:=Yz.out.im1 Zb.out;have f3:=Yz.out.im3 Zb.out;have f4:=Yz.out.im4 Zb.out;have f5:=Yz.out.im5 Zb.out;have f6:=Yz.out.im6 Zb.out;have f7:=Yz.out.im7 Zb.out;have f8:=Yz.out.im8 Zb.out;have f9:=Yz.out.im9 Zb.out
  have Vf:Bx (Calls Tryz.prog 106 #[.agg #[.int .i64 x.minor,.int .i64 x.major,.slice (some ad) x.pn x.pc,.int .i64 x.access,.int .i64 x.this,.int .i64 x.super,.slice x.iA x.i_n x.ic,.slice x.fA x.fn x.fc,.slice x.mA x.mn x.mc,.slice x.aA x.an x.ac],.int .i64 c.a] wb.drew (TextPost T wb.drew)):=bx (by
   rw[HN.out];have h9:=Y1g x c.a wb.drew (Jh.out.up (below_drewN (Below.refl _ _) 1));have e9:(.agg (imC x):Value) = .agg #[.int .i64 x.minor,.int .i64 x.major,.slice (some ad) x.pn x.pc,.int .i64 x.access,.int .i64 x.this,.int .i64 x.super,.slice x.iA x.i_n x.ic,.slice x.fA x.fn x.fc,.slice x.mA x.mn x.mc,.slice x.aA x.an x.ac]:=by unfold imC;rw[D1.out]
   rw[e9]at h9;exact h9)
  have hS5:(fun w'=>w'.cell? ⟨B,0,none⟩=some (.int .i64 x.minor)∧w'.cell? ⟨B,1,none⟩=some (.int .i64 x.major)∧w'.cell? ⟨B,2,none⟩=some (.slice (some ad) x.pn x.pc)∧w'.cell? ⟨B,3,none⟩=some (.int .i64 x.access)∧w'.cell? ⟨B,4,none⟩=some (.int .i64 x.this)∧w'.cell? ⟨B,5,none⟩=some (.int .i64 x.super)∧w'.cell? ⟨B,6,none⟩=some (.slice x.iA x.i_n x.ic)∧w'.cell? ⟨B,7,none⟩=some (.slice x.fA x.fn x.fc)∧w'.cell? ⟨B,8,none⟩=some (.slice x.mA x.mn x.mc)∧w'.cell? ⟨B,9,none⟩=some (.slice x.aA x.an x.ac)∧w'.cell? ⟨(ad.add (k*5)).block,(ad.add (k*5)).off+1,none⟩=some (.int .i64 c.a)) wb:=⟨f0,f1,f2,f3,f4,f5,f6,f7,f8,f9,p1⟩;have Cx:Bx ((ad.add (k*5)).block<wb.heap.size):=bx (by rw[blk_add];assumption);clear HT HN p0 p2 p3 p4
  go_region_held3 (fun w'=>w'.cell? ⟨B,0,none⟩=some (.int .i64 x.minor)∧w'.cell? ⟨B,1,none⟩=some (.int .i64 x.major)∧w'.cell? ⟨B,2,none⟩=some (.slice (some ad) x.pn x.pc)∧w'.cell? ⟨B,3,none⟩=some (.int .i64 x.access)∧w'.cell? ⟨B,4,none⟩=some (.int .i64 x.this)∧w'.cell? ⟨B,5,none⟩=some (.int .i64 x.super)∧w'.cell? ⟨B,6,none⟩=some (.slice x.iA x.i_n x.ic)∧w'.cell? ⟨B,7,none⟩=some (.slice x.fA x.fn x.fc)∧w'.cell? ⟨B,8,none⟩=some (.slice x.mA x.mn x.mc)∧w'.cell? ⟨B,9,none⟩=some (.slice x.aA x.an x.ac)∧w'.cell? ⟨(ad.add (k*5)).block,(ad.add (k*5)).off+1,none⟩=some (.int .i64 c.a)) (first | exact hS5 | exact hS6) ((go_at_call 106;refine Vf.out.mono ?_;rintro e w6 ⟨rfl,hb6⟩;have hK6:=(Yz.out.drewN 1).below hb6 (Yz.out.drewN 1).lt;have Yj:=bx hb6;have hS6:(fun w'=>w'.cell? ⟨B,0,none⟩=some (.int .i64 x.minor)∧w'.cell? ⟨B,1,none⟩=some (.int .i64 x.major)∧w'.cell? ⟨B,2,none⟩=some (.slice (some ad) x.pn x.pc)∧w'.cell? ⟨B,3,none⟩=some (.int .i64 x.access)∧w'.cell? ⟨B,4,none⟩=some (.int .i64 x.this)∧w'.cell? ⟨B,5,none⟩=some (.int .i64 x.super)∧w'.cell? ⟨B,6,none⟩=some (.slice x.iA x.i_n x.ic)∧w'.cell? ⟨B,7,none⟩=some (.slice x.fA x.fn x.fc)∧w'.cell? ⟨B,8,none⟩=some (.slice x.mA x.mn x.mc)∧w'.cell? ⟨B,9,none⟩=some (.slice x.aA x.an x.ac)∧w'.cell? ⟨(ad.add (k*5)).block,(ad.add (k*5)).off+1,none⟩=some (.int .i64 c.a)) w6:=⟨hK6.im0 Zb.out,hK6.im1 Zb.out,(hK6.im2 Zb.out).trans (by rw[D1.out]),hK6.im3 Zb.out,hK6.im4 Zb.out,hK6.im5 Zb.out,hK6.im6 Zb.out,hK6.im7 Zb.out,hK6.im8 Zb.out,hK6.im9 Zb.out,(hb6.cell (p:=⟨(ad.add (k*5)).block,(ad.add (k*5)).off+1,none⟩) Cx.out).trans p1⟩))
  all_goals (
   go_wp2;go_ret2;exact⟨rfl,(below_drewN Tg.out 1).trans (Yj.out.mono Tg.out.size)⟩)
open Go.RowKit
def brkC:List PanicEntry:=[{ v := .iface 86 (.agg #[]),recovered:=false }]
theorem Y7p (w:World):Calls Tryz.prog 54 #[.bool false] w fun e w'=>e = .panicked brkC∧w'=w:=by
 go_enter Tryz.func54,Tryz.ntmps54
 go_wp2;exact⟨rfl,rfl,rfl⟩
theorem Y7t (w:World):Calls Tryz.prog 54 #[.bool true] w fun e w'=>e = .returned (.tuple #[])∧w'=w:=by
 go_enter Tryz.func54,Tryz.ntmps54
 go_wp2
 go_end0
 exact⟨rfl,rfl⟩
def KlP {α:Type} (o:Option α) (F:α→Ending→World→Prop) (w:World) (e:Ending) (w':World):Prop:=
 (match o with
  | some x=>F x e w'
  | none=>e = .panicked brkC)∧Below w.heap.size w w'
def strP (s:List UInt8) (e:Ending) (_:World):Prop:=e = .returned (.string ⟨s.toArray⟩)
def vwA (x:ImE) (b:Bool):Array Value:=#[.int .i64 x.minor,.int .i64 x.major,.slice x.pA x.pn x.pc,.int .i64 x.access,.int .i64 x.this,.int .i64 x.super,.slice x.iA x.i_n x.ic,.slice x.fA x.fn x.fc,.slice x.mA x.mn x.mc,.slice x.aA x.an x.ac,.bool b]
structure Vw (w:World) (gv:Nat) (x:ImE) (b:Bool):Prop where
 box:Bk w gv 90 (vwA x b)
 im:RIm w gv x
 lt:gv<w.heap.size
 txt:∀c∈x.pool,c.text.length≤2000000
 mx:4<gv∧∃m,w.cell? ⟨4,0,none⟩=some (.int .i64 m)
theorem Vw.below {w w':World} {gv:Nat} {x:ImE} {b:Bool} (h:Vw w gv x b) (hb:Below w.heap.size w w'):Vw w' gv x b:=
 ⟨h.box.below hb h.lt,h.im.below hb (Z11 h.lt),Z07 h.lt hb.size,h.txt,h.mx.1,by obtain⟨m,hm⟩:=h.mx.2;exact⟨m,(hb.cell (p:=⟨4,0,none⟩) (Nat.lt_trans h.mx.1 h.lt)).trans hm⟩⟩
theorem W7u (x:ImE) (i:Int):txtK x.p.pool i=if (textP x.p i).2=true then some (textP x.p i).1 else none:=by
 unfold txtK textP;have e:tagK x.p.pool i=tagP x.p.pool i:=rfl;rw[e]
 split
 ·cases hc:x.p.pool[i.toNat]? with
  | none=>rfl
  | some c=>rfl
 ·rfl
theorem W5h (x:ImE) (i:Int):clsK x.p.pool i=if (classP x.p i).2=true then some (classP x.p i).1 else none:=by
 unfold clsK classP;have e:tagK x.p.pool i=tagP x.p.pool i:=rfl;rw[e]
 split
 ·cases hc:x.p.pool[i.toNat]? with
  | none=>rfl
  | some c=>exact W7u x c.a
 ·rfl
theorem RIm.top9 {w:World} {B:Nat} {x:ImE} (h:RIm w B x) (hB:B≤w.heap.size):RIm w w.heap.size x:=h.more hB
theorem X5c (x:ImE) (b:Bool) (gv:Nat) (i:Int) (w:World) (hv:Vw w gv x b) :
  Calls Tryz.prog 78 #[.pointer (some ⟨gv,0,none⟩),.int .i64 i] w (KlP (txtK x.p.pool i) strP w):=by
 have HT:=bx (Y1g x i w (hv.im.top9 (Z11 hv.lt)));have hR:=W7u x i;obtain⟨R,hRR⟩:∃R,txtK x.p.pool i=R:=⟨_,rfl⟩;obtain⟨⟨s,q⟩,hq⟩:∃r,textP x.p i=r:=⟨_,rfl⟩;rw[hq]at HT;rw[hRR,hq]at hR;rw[hRR];dsimp only at hR;have HR:Bx ((q=false→R=none)∧(q=true→R=some s)):=bx ⟨fun e=>by rw[hR,if_neg (by rw[e];decide)],fun e=>by rw[hR,if_pos e]⟩;have hg:=hv.lt;have c0:=hv.box.cell 0;have c1:=hv.box.cell 1;have c2:=hv.box.cell 2;have c3:=hv.box.cell 3;have c4:=hv.box.cell 4;have c5:=hv.box.cell 5;have c6:=hv.box.cell 6;have c7:=hv.box.cell 7;have c8:=hv.box.cell 8;have c9:=hv.box.cell 9;simp only[vwA,Z17,Z16,List.getElem?_cons_succ]at c0 c1 c2 c3 c4 c5 c6 c7 c8 c9;clear hv hq hR hRR
 go_enter Tryz.func78,Tryz.ntmps78
 go_wp2_with fail
 refine HT.out.mono ?_;rintro e w1 ⟨rfl,hb1⟩;have Zi:=bx hb1;clear hb1 HT c0 c1 c2 c3 c4 c5 c6 c7 c8 c9;cases q with
 | false=>
  go_wp2_with fail
  refine(Y7p w1).mono ?_
  rintro e w2 ⟨rfl,hw⟩;obtain rfl:w1=w2:=hw.symm;go_wp2;rw[HR.out.1 (by first | trivial | rfl)];exact⟨rfl,rfl,Zi.out⟩
 | true=>
  go_wp2_with fail
  refine(Y7t w1).mono ?_
  rintro e w2 ⟨rfl,hw⟩;obtain rfl:w1=w2:=hw.symm;go_wp2;go_ret;rw[HR.out.2 (by first | trivial | rfl)];exact⟨rfl,Zi.out⟩
theorem Y4g (x:ImE) (b:Bool) (gv:Nat) (i:Int) (w:World) (hv:Vw w gv x b) :
  Calls Tryz.prog 82 #[.pointer (some ⟨gv,0,none⟩),.int .i64 i] w (KlP (clsK x.p.pool i) strP w):=by
 have HT:=bx (X7g x i w (hv.im.top9 (Z11 hv.lt)));have hR:=W5h x i;obtain⟨R,hRR⟩:∃R,clsK x.p.pool i=R:=⟨_,rfl⟩;obtain⟨⟨s,q⟩,hq⟩:∃r,classP x.p i=r:=⟨_,rfl⟩;rw[hq]at HT;rw[hRR,hq]at hR;rw[hRR];dsimp only at hR;have HR:Bx ((q=false→R=none)∧(q=true→R=some s)):=bx ⟨fun e=>by rw[hR,if_neg (by rw[e];decide)],fun e=>by rw[hR,if_pos e]⟩;have hg:=hv.lt;have c0:=hv.box.cell 0;have c1:=hv.box.cell 1;have c2:=hv.box.cell 2;have c3:=hv.box.cell 3;have c4:=hv.box.cell 4;have c5:=hv.box.cell 5;have c6:=hv.box.cell 6;have c7:=hv.box.cell 7;have c8:=hv.box.cell 8;have c9:=hv.box.cell 9;simp only[vwA,Z17,Z16,List.getElem?_cons_succ]at c0 c1 c2 c3 c4 c5 c6 c7 c8 c9;clear hv hq hR hRR
 go_enter Tryz.func82,Tryz.ntmps82
 go_wp2_with fail
 refine HT.out.mono ?_;rintro e w1 ⟨rfl,hb1⟩;have Zi:=bx hb1;clear hb1 HT c0 c1 c2 c3 c4 c5 c6 c7 c8 c9;cases q with
 | false=>
  go_wp2_with fail
  refine(Y7p w1).mono ?_
  rintro e w2 ⟨rfl,hw⟩;obtain rfl:w1=w2:=hw.symm;go_wp2;rw[HR.out.1 (by first | trivial | rfl)];exact⟨rfl,rfl,Zi.out⟩
 | true=>
  go_wp2_with fail
  refine(Y7t w1).mono ?_
  rintro e w2 ⟨rfl,hw⟩;obtain rfl:w1=w2:=hw.symm;go_wp2;go_ret;rw[HR.out.2 (by first | trivial | rfl)];exact⟨rfl,Zi.out⟩
theorem Y6h {α β:Type} {o:Option α} {f:α→Option β} {y:β} (h:o.bind f=some y):∃x,o=some x∧f x=some y:=Option.bind_eq_some_iff.1 h
theorem X3k {x:ImE} {i:Int} {s:List UInt8} {k:Nat} (ht:∀c∈x.pool,c.text.length≤k) (h:clsK x.p.pool i=some s):s.length≤k:=by
 unfold clsK at h
 split at h
 ·obtain⟨c,_,hs⟩:=Y6h h
  unfold txtK at hs
  split at hs
  ·obtain⟨c2,hc2,e⟩:=Option.map_eq_some_iff.1 hs
   rw[←e];exact ht c2 (Z15 hc2)
  ·cases hs
 ·cases h
theorem X6w (x:ImE) (b:Bool) (gv:Nat) (i:Int) (w:World) (hv:Vw w gv x b) :
  Calls Tryz.prog 53 #[.pointer (some ⟨gv,0,none⟩),.int .i64 i] w (KlP (plainK x.p.pool i) strP w):=by
 have HC:=bx (Y4g x b gv i w hv);have HV:=bx hv;obtain⟨R,hR⟩:∃R,plainK x.p.pool i=R:=⟨_,rfl⟩;rw[hR];unfold plainK at hR;obtain⟨o,ho⟩:∃o,clsK x.p.pool i=o:=⟨_,rfl⟩;have hsl:∀s,o=some s→s.length≤2000000:=fun s e=>X3k hv.txt (ho.trans e);rw[ho]at HC hR;have HR:=bx hR;have Wh:=bx hsl;clear hv hR ho hsl
 go_enter Tryz.func53,Tryz.ntmps53
 go_wp2_with fail
 refine HC.out.mono ?_;intro e w1 hp;obtain⟨hp,hb1⟩:=hp;have Zi:=bx hb1;have Jk:=bx (HV.out.below hb1);clear hb1 HC HV;cases o with
 | none=>have hp:e = .panicked brkC:=hp;subst hp;have HN:Bx (R=none):=bx (by rw[←HR.out];rfl);go_wp2;rw[HN.out];exact⟨rfl,rfl,Zi.out⟩
 | some s=>
  have hp:e = .returned (.string ⟨s.toArray⟩):=hp;subst hp;obtain⟨sn,hsn⟩:∃sn:ByteArray,(⟨s.toArray⟩:ByteArray)=sn:=⟨_,rfl⟩;have hsz:sn.size≤2000000:=by rw[←hsn];have:=Wh.out s rfl;show s.toArray.size≤_;simpa using this
  have hst:sn.data.toList=s:=(by rw[←hsn]);obtain⟨m,hm⟩:=Jk.out.mx.2;have Qq:=bx (Y6m sn m w1 (by omega) hm);obtain⟨q,hq⟩:∃q,(decide (sn.size≤58)&&classGo sn.data.toList 0)=q:=⟨_,rfl⟩;rw[hq]at Qq;have hcl:classOk s=q:=by rw[←hq,←hst];rfl
  have Bq:=bx hcl;have HSN:=bx hsn;rw[hsn];clear hsz hst hm hq hcl hsn;go_wp2_with fail
  refine Qq.out.mono ?_;rintro e w2 ⟨rfl,hb2⟩;have Wj:=bx (Zi.out.trans (hb2.mono Zi.out.size));clear hb2 Qq;cases q with
  | false=>
   have HN:Bx (R=none):=bx (by rw[←HR.out];show gdK (classOk s) (some s)=none;rw[Bq.out];rfl);go_wp2_with fail
   refine(Y7p w2).mono ?_
   rintro e w3 ⟨rfl,hw⟩;obtain rfl:w2=w3:=hw.symm;go_wp2;rw[HN.out];exact⟨rfl,rfl,Wj.out⟩
  | true=>
   have HN:Bx (R=some s):=bx (by rw[←HR.out];show gdK (classOk s) (some s)=_;rw[Bq.out];rfl);go_wp2_with fail
   refine(Y7t w2).mono ?_
   rintro e w3 ⟨rfl,hw⟩;obtain rfl:w2=w3:=hw.symm;go_wp2;go_ret;rw[HN.out];exact⟨by rw[←HSN.out];rfl,Wj.out⟩
open Go.RowKit
def OneR (g k:Nat):Prop:=k=g
structure Krd (w:World) (gk gr gv lo:Nat) (l:List UInt8) (p:Nat) (bad:Bool) (x:ImE) (b:Bool):Prop where
 box:Bk w gk 220 #[.pointer (some ⟨gr,0,none⟩),.pointer (some ⟨gv,0,none⟩)]
 rd:RdrL w gr lo l p bad
 vw:Vw w gv x b
 ord:gv<gr∧gr<gk
 low:lo≤gr
section
variable {w w':World} {gk gr gv lo:Nat} {l:List UInt8} {p p':Nat} {bad bad':Bool} {x:ImE} {b:Bool}
theorem X1b {g:Nat} (h:RdrL w g lo l p bad) (hk:∀k,k≤g→w'.heap[k]? = w.heap[k]?):RdrL w' g lo l p bad:=by
 obtain⟨A,c,hA,h1,h2,r⟩:=h;exact⟨A,c,hA,(hk g (Z00 _)).trans h1,Rd.keep h2 (fun q hq=>Y8w (hk q.block (by omega))),r⟩
theorem Krd.below (h:Krd w gk gr gv lo l p bad x b) (hb:Below w.heap.size w w'):Krd w' gk gr gv lo l p bad x b:=
 ⟨h.box.below hb h.box.lt,h.rd.below hb,h.vw.below hb,h.ord,h.low⟩
theorem Krd.lt (h:Krd w gk gr gv lo l p bad x b):gk<w.heap.size∧gr<w.heap.size∧gv<w.heap.size:=by
 have:=h.box.lt
 have:=h.ord
 omega
theorem Krd.on (h:Krd w gk gr gv lo l p bad x b) (hr:RdrL w' gr lo l p' bad') (c:Ch w w' (OneR gr)):Krd w' gk gr gv lo l p' bad' x b:=by
 have hl:=h.lt;have ho:=h.ord;have hmx:∃m,w'.cell? ⟨4,0,none⟩=some (.int .i64 m):=by obtain⟨m,hm⟩:=h.vw.mx.2;exact⟨m,(Y8w (p:=⟨4,0,none⟩) (c.same _ (Nat.lt_trans h.vw.mx.1 h.vw.lt) (fun e=>by have e:4=gr:=e;have:=h.vw.mx.1;omega))).trans hm⟩
 refine⟨h.box.ch c (fun e=>by have e:gk=gr:=e;omega),hr,⟨h.vw.box.ch c (fun e=>by have e:gv=gr:=e;omega),?_,Z07 h.vw.lt c.size,h.vw.txt,h.vw.mx.1,hmx⟩,ho,h.low⟩;exact h.vw.im.below (B':=gv) (c.below (Z11 h.vw.lt) (fun k hk e=>by have e:k=gr:=e;omega)) (Z00 _)
theorem Krd.far {U:Nat→Prop} (h:Krd w gk gr gv lo l p bad x b) (c:Ch w w' U) (hU:∀k,k≤gr∨k=gk→¬U k):Krd w' gk gr gv lo l p bad x b:=by
 have hl:=h.lt;have ho:=h.ord;have hmx:∃m,w'.cell? ⟨4,0,none⟩=some (.int .i64 m):=by obtain⟨m,hm⟩:=h.vw.mx.2;exact⟨m,(Y8w (p:=⟨4,0,none⟩) (c.same _ (Nat.lt_trans h.vw.mx.1 h.vw.lt) (hU _ (.inl (Z11 (Nat.lt_trans h.vw.mx.1 ho.1)))))).trans hm⟩
 refine⟨h.box.ch c (hU _ (.inr rfl)),X1b h.rd (fun k hk=>c.same k (by omega) (hU _ (.inl hk))),⟨h.vw.box.ch c (hU _ (by omega)),?_,Z07 h.vw.lt c.size,h.vw.txt,h.vw.mx.1,hmx⟩,ho,h.low⟩;exact h.vw.im.below (B':=gv) (c.below (Z11 h.vw.lt) (fun k hk=>hU _ (by omega))) (Z00 _)
theorem Y1e (ad:Addr) (i:Nat):(ad.add i).block=ad.block:=by unfold Addr.add;split <;> rfl
theorem RdrL.mid {gm:Nat} (h:RdrL w gr lo l p bad) (c:Ch w w' (OneR gm)) (h1:gm<lo) (h2:lo≤gr):RdrL w' gr lo l p bad:=by
 obtain⟨A,c',hA,hB,hR,r⟩:=h;have hlt:=hB.lt;refine⟨A,c',hA,hB.ch c (fun e=>by have e:gr=gm:=e;omega),fun hn=>?_,r⟩;obtain⟨ad,e,hx,hc⟩:=hR hn;refine⟨ad,e,hx,fun i u hu=>(Y8w ?_).trans (hc i u hu)⟩;rw[Y1e]
 exact c.same _ (by omega) (fun e2=>by
  have e2:ad.block=gm:=e2
  have:=hA (fun e3=>hn (by rw[e3];rfl)) ad e
  omega)
theorem Krd.mid {gm:Nat} (h:Krd w gk gr gv lo l p bad x b) (c:Ch w w' (OneR gm)) (h0:gv<gm) (h1:gm<lo):Krd w' gk gr gv lo l p bad x b:=by
 have hl:=h.lt;have ho:=h.ord;have hlw:=h.low;have hmx:∃m,w'.cell? ⟨4,0,none⟩=some (.int .i64 m):=by obtain⟨m,hm⟩:=h.vw.mx.2;exact⟨m,(Y8w (p:=⟨4,0,none⟩) (c.same _ (Nat.lt_trans h.vw.mx.1 h.vw.lt) (fun e=>by have e:4=gm:=e;have:=h.vw.mx.1;omega))).trans hm⟩
 refine⟨h.box.ch c (fun e=>by have e:gk=gm:=e;omega),h.rd.mid c h1 h.low,⟨h.vw.box.ch c (fun e=>by have e:gv=gm:=e;omega),?_,Z07 h.vw.lt c.size,h.vw.txt,h.vw.mx.1,hmx⟩,ho,h.low⟩;exact h.vw.im.below (B':=gv) (c.below (Z11 h.vw.lt) (fun k hk e=>by have e:k=gm:=e;omega)) (Z00 _)
theorem Y4a {g:Nat} (h:w.grownBy w' (some g)):Ch w w' (OneR g):=Ch.of_grown h (fun k e=>by injection e with e;exact e.symm)
end
def KrP {α:Type} (o:Option (α×Nat)) (F:α→Ending→World→Prop) (gk gr gv lo:Nat) (l:List UInt8) (x:ImE) (b:Bool) (w:World) (e:Ending) (w':World):Prop:=
 (match o with
  | some (a,p')=>F a e w'∧Krd w' gk gr gv lo l p' false x b
  | none=>e = .panicked brkC)∧Ch w w' (OneR gr)
def natP (v:Nat) (e:Ending) (_:World):Prop:=e = .returned (.int .i64 (v:Int))
theorem X0c (n most:Int) (gk gr gv lo:Nat) (l:List UInt8) (p:Nat) (x:ImE) (b:Bool) (w:World) (h:Krd w gk gr gv lo l p true x b) :
  Calls Tryz.prog 112 #[.pointer (some ⟨gk,0,none⟩),.int .i64 n,.int .i64 most] w fun e w'=>e = .panicked brkC∧Ch w w' (OneR gr):=by
 have HK:=bx h;have HN:=bx (X8n gr lo l p true n w h.rd);have c0:=h.box.cell 0;have hlt:=h.box.lt;simp only[Z17,Z16]at c0;clear h
 go_enter Tryz.func112,Tryz.ntmps112
 go_wp2_with fail
 refine HN.out.mono ?_;rintro e w1 ⟨rfl,hr,hg⟩;have hok:okN l p true n=false:=(by simp [okN]);rw[hok]at hr;have hv:numV l p true n=0:=by unfold numV;rw[hok];rfl
 rw[hv];have HC:=bx (Y4a hg);have Ze:=bx (HK.out.on hr (Y4a hg));clear hr hg hok hv HN c0;have c0:w1.cell? ⟨gk,0,none⟩=some (.pointer (some ⟨gr,0,none⟩)):=(Ze.out.box.cell 0).trans rfl;go_wp2_with fail
 refine(Y8c gr lo l _ _ w1 Ze.out.rd).mono ?_
 rintro e w2 ⟨rfl,hw⟩;obtain rfl:w1=w2:=hw;go_wp2_with fail
 refine(Y7p w1).mono ?_
 rintro e w2 ⟨rfl,hw⟩;obtain rfl:w1=w2:=hw.symm;go_wp2;exact⟨rfl,rfl,HC.out⟩
theorem Y5m (n most:Nat) (gk gr gv lo:Nat) (l:List UInt8) (p:Nat) (x:ImE) (b:Bool) (w:World) (h:Krd w gk gr gv lo l p false x b) (hn:1≤n∧n≤4) (hm:most≤4294967296) :
  Calls Tryz.prog 112 #[.pointer (some ⟨gk,0,none⟩),.int .i64 (n:Int),.int .i64 (most:Int)] w (KrP (numK n most l p) natP gk gr gv lo l x b w):=by
 have HK:=bx h;have HN:=bx (X8n gr lo l p false n w h.rd);have c0:=h.box.cell 0;have hlt:=h.box.lt;have hpl:p≤l.length:=by obtain⟨_,_,_,_,_,_,_,_,q⟩:=h.rd;exact q
 simp only[Z17,Z16]at c0;obtain⟨R,hR⟩:∃R,numK n most l p=R:=⟨_,rfl⟩;rw[hR];unfold numK at hR;have HR:=bx hR;have Wm:Bx (1≤n∧n≤4∧most≤4294967296):=bx ⟨hn.1,hn.2,hm⟩;have Tz:=bx hpl;clear h hR hn hm hpl
 go_enter Tryz.func112,Tryz.ntmps112
 go_wp2_with fail
 refine HN.out.mono ?_;rintro e w1 ⟨rfl,hr,hg⟩;have HC:=bx (Y4a hg);clear c0 HN;by_cases hs:p+n≤l.length
 ·have hok:okN l p false (n:Int)=true:=by have:=Wm.out;simp [okN];omega
  rw[hok]at hr;have hpa:numAt l p false (n:Int)=p+n:=by unfold numAt;rw[hok,if_pos rfl,Z33]
  rw[hpa]at hr;obtain⟨v,hv⟩:∃v,beN ((l.drop p).take n)=v:=⟨_,rfl⟩
  have hv4:v<4294967296:=by
   have h1:=X9i ((l.drop p).take n);have h2:((l.drop p).take n).length≤4:=by rw[Z31];have:=Wm.out;omega
   have h3:=Nat.pow_le_pow_right (n:=256) (by omega) h2;rw[hv]at h1;omega
  have hnv:numV l p false (n:Int)=(v:Int):=by unfold numV;rw[hok,if_pos rfl,Z33,hv];unfold wrap64;omega
  rw[hnv];have Xd:=HR.out;rw[hv]at Xd;have Zh:=bx Xd;have Ze:=bx (HK.out.on hr (Y4a hg));have hwv:IntKind.i64.wrap (v:Int)=(v:Int):=IntWalk.i64_in _ (by omega);clear hr hg hok hpa hnv hv Xd HR HK;have c0:w1.cell? ⟨gk,0,none⟩=some (.pointer (some ⟨gr,0,none⟩)):=(Ze.out.box.cell 0).trans rfl;have hlt1:gk<w1.heap.size:=Ze.out.box.lt;by_cases hvm:v≤most
  ·have hI:(v:Int)≤(most:Int):=by omega
   have hId:decide (v≤most)=true:=Z46 hvm;have HX:Bx (R=some (v,p+n)):=bx (by have:=Zh.out;rw[if_pos ⟨hs,hvm⟩]at this;exact this.symm);clear Zh hs hvm;go_wp2_with fail
   refine(Y8c gr lo l _ _ w1 Ze.out.rd).mono ?_
   rintro e w2 ⟨rfl,hw⟩;obtain rfl:w1=w2:=hw;go_wp2_with fail
   refine(Y7t w1).mono ?_
   rintro e w2 ⟨rfl,hw⟩;obtain rfl:w1=w2:=hw.symm;go_wp2;go_ret;rw[HX.out];exact⟨⟨rfl,Ze.out⟩,HC.out⟩
  ·have hI:¬(v:Int)≤(most:Int):=by omega
   have hId:decide (v≤most)=false:=Z47 hvm;have HX:Bx (R=none):=bx (by have:=Zh.out;rw[if_neg (fun e=>hvm e.2)]at this;exact this.symm);clear Zh hs hvm;go_wp2_with fail
   refine(Y8c gr lo l _ _ w1 Ze.out.rd).mono ?_
   rintro e w2 ⟨rfl,hw⟩;obtain rfl:w1=w2:=hw;go_wp2_with fail
   refine(Y7p w1).mono ?_
   rintro e w2 ⟨rfl,hw⟩;obtain rfl:w1=w2:=hw.symm;go_wp2;rw[HX.out];exact⟨rfl,rfl,HC.out⟩
 ·have hok:okN l p false (n:Int)=false:=by have:=Wm.out;simp [okN];omega
  rw[hok]at hr;have hnv:numV l p false (n:Int)=0:=by unfold numV;rw[hok];rfl
  rw[hnv];have HX:Bx (R=none):=bx (by have:=HR.out;rw[if_neg (fun e=>hs e.1)]at this;exact this.symm);have Ze:=bx (HK.out.on hr (Y4a hg));clear hr hg hok hnv HR HK hs;have c0:w1.cell? ⟨gk,0,none⟩=some (.pointer (some ⟨gr,0,none⟩)):=(Ze.out.box.cell 0).trans rfl;have hlt1:gk<w1.heap.size:=Ze.out.box.lt;go_wp2_with fail
  refine(Y8c gr lo l _ _ w1 Ze.out.rd).mono ?_
  rintro e w2 ⟨rfl,hw⟩;obtain rfl:w1=w2:=hw;go_wp2_with fail
  refine(Y7p w1).mono ?_
  rintro e w2 ⟨rfl,hw⟩;obtain rfl:w1=w2:=hw.symm;go_wp2;rw[HX.out];exact⟨rfl,rfl,HC.out⟩
open Go.RowKit
theorem Y1v (A:Option Addr) (n c:Nat) (l:List UInt8) (gv:Nat) (x:ImE) (b:Bool) (w:World) (hv:Vw w gv x b) (hn:l.length=n) (hl:(n:Int)≤140737488355328) (hr:RB w w.heap.size A l) :
  Calls Tryz.prog 87 #[.pointer (some ⟨gv,0,none⟩),.slice A n c] w fun e w'=>∃gk gr,e = .returned (.pointer (some ⟨gk,0,none⟩))∧w.heap.size≤gr∧Krd w' gk gr gv w.heap.size l 0 false x b∧Below w.heap.size w w':=by
 have HN:=bx (W9e A n c w l hn hl hr);have HV:=bx hv;clear hv hn hl hr
 go_enter Tryz.func87,Tryz.ntmps87
 go_wp2_with fail
 refine HN.out.mono ?_;rintro e w1 ⟨g,rfl,hg,hrd,hb1⟩;have HG:=bx hg;have Na:=bx hrd;have Zi:=bx hb1;clear hg hrd hb1 HN;go_wp2;go_ret;have hb2:Below w1.heap.size w1 (w1.alloc (.cells #[.pointer (some ⟨g,0,none⟩),.pointer (some ⟨gv,0,none⟩)] 220)):=Y9z (Below.refl _ _) (Z00 _) _;have hlt:=HV.out.lt;have hg1:g<w1.heap.size:=by obtain⟨_,_,_,hB,_⟩:=Na.out;exact hB.lt
 exact⟨_,g,rfl,HG.out,⟨Bk.new _ _ _,Na.out.below hb2,(HV.out.below Zi.out).below hb2,⟨by have:=HG.out;omega,hg1⟩,HG.out⟩,Zi.out.trans (hb2.mono Zi.out.size)⟩
def KendP (c:Bool) (w:World) (e:Ending) (w':World):Prop:=e=(if c=true then .returned (.tuple #[]) else .panicked brkC)∧Below w.heap.size w w'
theorem W8t (gk gr gv lo:Nat) (l:List UInt8) (p:Nat) (bad:Bool) (x:ImE) (b:Bool) (w:World) (h:Krd w gk gr gv lo l p bad x b) :
  Calls Tryz.prog 115 #[.pointer (some ⟨gk,0,none⟩)] w (KendP (!bad&&decide (p=l.length)) w):=by
 have HK:=bx h;have c0:=h.box.cell 0;have hlt:=h.box.lt;have hpl:p≤l.length:=by obtain⟨_,_,_,_,_,_,_,_,q⟩:=h.rd;exact q
 simp only[Z17,Z16]at c0;have Tz:=bx hpl;clear h hpl;cases bad with
 | true=>
  rw[show (!true&&decide (p=l.length))=false from rfl]
  go_enter Tryz.func115,Tryz.ntmps115
  go_wp2_with fail
  refine(Y8c gr lo l _ _ w HK.out.rd).mono ?_
  rintro e w2 ⟨rfl,hw⟩;obtain rfl:w=w2:=hw;go_wp2_with fail
  refine(Y7p w).mono ?_
  rintro e w2 ⟨rfl,hw⟩;obtain rfl:w=w2:=hw.symm;go_wp2;exact⟨rfl,rfl,Below.refl _ _⟩
 | false=>
  by_cases hp:p=l.length
  ·rw[show (!false&&decide (p=l.length))=true by rw[Z46 hp];rfl]
   have hI:((l.length:Int)-(p:Int)==0)=true:=by simp;omega
   have HI:=bx hI;clear hp hI
   go_enter Tryz.func115,Tryz.ntmps115
   go_wp2_with fail
   refine(Y8c gr lo l _ _ w HK.out.rd).mono ?_
   rintro e w2 ⟨rfl,hw⟩;obtain rfl:w=w2:=hw;go_wp2_with fail
   refine(Y1r gr lo l _ _ w HK.out.rd).mono ?_
   rintro e w2 ⟨rfl,m,rfl⟩;have hI:=HI.out;go_wp2_with fail
   refine(Y7t _).mono ?_
   rintro e w2 ⟨rfl,hw⟩;subst hw;go_wp2
   go_end0
   exact⟨rfl,below_drewN (Below.refl _ _) _⟩
  ·rw[show (!false&&decide (p=l.length))=false by rw[Z47 hp];rfl]
   have hI:((l.length:Int)-(p:Int)==0)=false:=by simp;omega
   have HI:=bx hI;clear hp hI
   go_enter Tryz.func115,Tryz.ntmps115
   go_wp2_with fail
   refine(Y8c gr lo l _ _ w HK.out.rd).mono ?_
   rintro e w2 ⟨rfl,hw⟩;obtain rfl:w=w2:=hw;go_wp2_with fail
   refine(Y1r gr lo l _ _ w HK.out.rd).mono ?_
   rintro e w2 ⟨rfl,m,rfl⟩;have hI:=HI.out;go_wp2_with fail
   refine(Y7p _).mono ?_
   rintro e w2 ⟨rfl,hw⟩;subst hw;go_wp2;exact⟨rfl,rfl,below_drewN (Below.refl _ _) _⟩
open Go.RowKit
set_option linter.unusedSimpArgs false
theorem vtTy:ETy Tryz.prog 51 60 (.agg #[.int .i64 0,.string ⟨#[]⟩,.int .i64 0]) 3 32:=⟨Tryz.underlying51,info_parts (by kernel_rfl),rfl,by decide⟩
theorem Ch.one {w:World} {g i:Nat} {u:Value}:Ch w (w.setCell ⟨g,i,none⟩ u) (OneR g):=(Ch.refl w).setCell (S:=OneR g) (p:=⟨g,i,none⟩) (fun _=>rfl) u
theorem Y8r {w w':World} {g:Nat} (c:Ch w w' (OneR g)):w.grownBy w' (some g):=⟨c.os,c.tape,c.output,c.size,fun k hk hne=>c.same k hk (fun e=>hne (by rw[show k=g from e]))⟩
theorem OwS.one {α:Type} {fC:α→List Value} {sz base g:Nat} {T:TypeId} {v:Value} {L:List α} {w w':World} (h:OwS fC sz w base T v L) (c:Ch w w' (OneR g)) (hg:g<base):OwS fC sz w' base T v L:=
 h.kept (Y8r c) (by
  cases hv:v.ownBlock with
  | none=>exact .inl rfl
  | some b=>exact .inr (fun e=>by injection e with e;have:=(h.blk hv).1;omega))
theorem Ch.of_low {B:Nat} {a b:World} (h:Below B a b):Ch a b (fun k=>B≤k):=⟨h.os,h.tape,h.output,h.size,fun k _ hn=>h.block k (Nat.lt_of_not_le hn)⟩
def RepK {α:Type} (A:Kr α) (l:List UInt8) (p n j:Nat) (acc:List α) (p1:Nat):Prop:=repK A n l p=(repK A (n-j) l p1).map fun r=>(acc++r.1,r.2)
theorem RepK.start {α:Type} (A:Kr α) (l:List UInt8) (p n:Nat):RepK A l p n 0 [] p:=by
 unfold RepK;rw[Nat.sub_zero];cases repK A n l p with
 | none=>rfl
 | some r=>rfl
theorem RepK.next {α:Type} {A:Kr α} {l:List UInt8} {p n j p1 p2:Nat} {acc:List α} {y:α} (h:RepK A l p n j acc p1) (hj:j<n) (hy:A l p1=some (y,p2)):RepK A l p n (j+1) (acc++[y]) p2:=by
 unfold RepK at h ⊢;rw[h,show n-j=(n-(j+1))+1 by omega];show (bndK A (fun x=>bndK (repK A (n-(j+1))) fun r=>retK (x::r)) l p1).map _=_;unfold bndK;rw[hy];show ((repK A (n-(j+1)) l p2).bind _).map _=_;cases repK A (n-(j+1)) l p2 with
 | none=>rfl
 | some r=>show some _=some _;simp
theorem RepK.stop {α:Type} {A:Kr α} {l:List UInt8} {p n j p1:Nat} {acc:List α} (h:RepK A l p n j acc p1) (hj:j<n) (hy:A l p1=none):repK A n l p=none:=by
 unfold RepK at h;rw[h,show n-j=(n-(j+1))+1 by omega];show (bndK A (fun x=>bndK (repK A (n-(j+1))) fun r=>retK (x::r)) l p1).map _=_;unfold bndK;rw[hy]
 rfl
theorem RepK.done {α:Type} {A:Kr α} {l:List UInt8} {p n p1:Nat} {acc:List α} (h:RepK A l p n n acc p1):repK A n l p=some (acc,p1):=by
 unfold RepK at h;rw[h,Nat.sub_self];show some (acc++[],p1)=_;rw[Z14]
theorem Y9w {α β:Type} {A:Kr α} {F:α→Kr β} {l:List UInt8} {p p':Nat} {x:α} (h:A l p=some (x,p')):bndK A F l p=F x l p':=by
 unfold bndK;rw[h]
 rfl
theorem Y9u {α β:Type} {A:Kr α} {F:α→Kr β} {l:List UInt8} {p:Nat} (h:A l p=none):bndK A F l p=none:=by
 unfold bndK;rw[h]
 rfl
theorem Y7m {α:Type} {o:Option α} {l:List UInt8} {p:Nat} {x:α} (h:o=some x):optK o l p=some (x,p):=by
 unfold optK;rw[h]
 rfl
theorem Y6e {α:Type} {o:Option α} {l:List UInt8} {p:Nat} (h:o=none):optK o l p=none:=by
 unfold optK;rw[h]
 rfl
theorem Y7f {n most p v p':Nat} {l:List UInt8} (h:numK n most l p=some (v,p')):v≤most:=by
 unfold numK at h
 split at h
 ·rename_i hc
  injection h with h
  injection h with h1 h2
  omega
 ·cases h
def vtR (pool:List Cst) (k:Nat):Kr Vt:=
 if k=7 then bndK (numK 2 65535) fun i=>bndK (optK (clsK pool i)) fun s=>retK ⟨7,s,0⟩
 else if k=8 then bndK (numK 2 65535) fun i=>retK ⟨8,[],i⟩
 else ifK (decide (k≤1∨4≤k)) (retK ⟨k,[],0⟩)
section
variable {pool:List Cst} {l:List UInt8} {p2 p3 i k:Nat} {s:List UInt8}
theorem W7o (h:numK 2 65535 l p2=none):vtR pool 7 l p2=none:=by
 unfold vtR;rw[if_pos rfl];exact Y9u h
theorem W5u (h:numK 2 65535 l p2=some (i,p3)) (hc:clsK pool i=none):vtR pool 7 l p2=none:=by
 unfold vtR;rw[if_pos rfl];rw[Y9w h];exact Y9u (Y6e hc)
theorem W6r (h:numK 2 65535 l p2=some (i,p3)) (hc:clsK pool i=some s):vtR pool 7 l p2=some (⟨7,s,0⟩,p3):=by
 unfold vtR;rw[if_pos rfl];rw[Y9w h,Y9w (Y7m hc)]
 rfl
theorem W3z (h:numK 2 65535 l p2=none):vtR pool 8 l p2=none:=by
 unfold vtR;rw[if_neg (by decide),if_pos rfl];exact Y9u h
theorem W6u (h:numK 2 65535 l p2=some (i,p3)):vtR pool 8 l p2=some (⟨8,[],i⟩,p3):=by
 unfold vtR;rw[if_neg (by decide),if_pos rfl];rw[Y9w h]
 rfl
theorem W4c (h7:k≠7) (h8:k≠8) (h:¬(k≤1∨4≤k)):vtR pool k l p2=none:=by
 unfold vtR;rw[if_neg h7,if_neg h8,Z47 h]
 rfl
theorem X4k (h7:k≠7) (h8:k≠8) (h:k≤1∨4≤k):vtR pool k l p2=some (⟨k,[],0⟩,p2):=by
 unfold vtR;rw[if_neg h7,if_neg h8,Z46 h]
 rfl
end
theorem W5d {pool:List Cst} {l:List UInt8} {p1 p2 k:Nat} (h:numK 1 8 l p1=some (k,p2)):vtK pool l p1=vtR pool k l p2:=by
 show (numK 1 8 l p1).bind _=_;rw[h]
 rfl
def VtsP (B:Nat) (r:List Vt) (e:Ending) (w':World):Prop:=∃v,e = .returned v∧OwS vtC 3 w' B 60 v r
theorem X7s (n:Nat) (gk gr gv lo:Nat) (l:List UInt8) (p:Nat) (x:ImE) (b:Bool) (w:World) (h:Krd w gk gr gv lo l p false x b) (hn:n≤1000000) :
  Calls Tryz.prog 139 #[.pointer (some ⟨gk,0,none⟩),.int .i64 (n:Int)] w (KrP (repK (vtK x.p.pool) n l p) (VtsP w.heap.size) gk gr gv lo l x b w):=by
 obtain⟨R,hR⟩:∃R,repK (vtK x.p.pool) n l p=R:=⟨_,rfl⟩;rw[hR];have HR:=bx hR;have HK:=bx h;clear h hR
 go_enter Tryz.func139,Tryz.ntmps139
 go_wp2_with fail
 go_loopw [5,8] (fun v iv wx=>∃(j:Nat) (acc:List Vt) (p1:Nat),j≤n∧iv = .int .i64 (j:Int)∧Bx (acc.length=j∧OwS vtC 3 wx w.heap.size 60 v acc∧Krd wx gk gr gv lo l p1 false x b∧Ch w wx (OneR gr)∧RepK (vtK x.p.pool) l p n j acc p1)) (fun _ iv _=>n-(intOf iv).toNat)
 case atStart=>exact⟨0,[],p,by omega,rfl,bx ⟨rfl,OwS.nil,HK.out,Ch.refl _,RepK.start _ _ _ _⟩⟩
 case round=>
  obtain⟨j,acc,p1,hj,rfl,Zs⟩:=hrel;obtain⟨A2,c2_,hv2,_,_⟩:=OwS.rd Zs.out.2.1;by_cases hjn:j<n
  ·have hjI:(j:Int)<(n:Int):=by omega
   have HN:=bx (Y5m 1 8 gk gr gv lo l p1 x b wr Zs.out.2.2.1 (by decide) (by decide));obtain⟨o,ho⟩:∃o,numK 1 8 l p1=o:=⟨_,rfl⟩;rw[ho]at HN;have HO:=bx ho;clear ho;go_wp2_with fail
   refine HN.out.mono ?_;intro e w1 hp;obtain⟨hp,hc1⟩:=hp;have Zt:=bx hc1;clear hc1 HN;cases o with
   | none=>have hp:e = .panicked brkC:=hp;subst hp;have HX:Bx (R=none):=bx (by rw[←HR.out];refine Zs.out.2.2.2.2.stop hjn ?_;show (numK 1 8 l p1).bind _=none;rw[HO.out];rfl);go_wp2;rw[HX.out];exact⟨rfl,rfl,Zs.out.2.2.2.1.trans Zt.out (fun _ _ e=>e)⟩
   | some r=>
    obtain⟨k,p2⟩:=r;obtain⟨hp,hk2⟩:=hp;have hp:e = .returned (.int .i64 (k:Int)):=hp;subst hp;have Zn:=bx hk2;have HV:=bx hv2;have Xu:Bx (wr.heap.size≤w1.heap.size):=bx Zt.out.size;clear hk2 hv2;have hk8:k≤8:=Y7f HO.out;have Kq:Bx (vtK x.p.pool l p1=vtR x.p.pool k l p2):=bx (W5d HO.out)
    go_upto_block 2 with(fail)
    have hc2:=Zt.out.alloc (.cells #[.int .i64 (k:Int),.string ⟨#[]⟩,.int .i64 0] 60);have hk3:=Zn.out.below (Y9z (Below.refl _ w1) (Z00 _) (.cells #[.int .i64 (k:Int),.string ⟨#[]⟩,.int .i64 0] 60));have hb3:=Bk.new w1 60 #[.int .i64 (k:Int),.string ⟨#[]⟩,.int .i64 0];obtain⟨w2,hw2⟩:∃w2,w1.alloc (.cells #[.int .i64 (k:Int),.string ⟨#[]⟩,.int .i64 0] 60)=w2:=⟨_,rfl⟩;obtain⟨g,hg⟩:∃g,w1.heap.size=g:=⟨_,rfl⟩;rw[hw2]at hc2 hk3 hb3 ⊢;rw[hg]at hb3 ⊢;have HG:Bx (gk<g∧gr<g∧gv<g∧w.heap.size≤g):=bx (by have h1:=Zs.out.2.2.1.lt;have h2:=Zs.out.2.2.2.1.size;have h3:=Xu.out;omega);have Jm:Bx (wr.heap.size≤g):=bx (hg ▸ Xu.out);have Yu:=bx hc2;have Zm:=bx hk3;have Xy:=bx hb3;clear hc2 hk3 hb3 hw2 hg Zt Zn Xu HO hp
    go_cut [24] from 15 to 38 (fun _ wx=>∃(y:Vt) (p3:Nat),Bx (vtK x.p.pool l p1=some (y,p3)∧Bk wx g 60 #[.int .i64 y.kind,strQ y.name,.int .i64 y.at_]∧Krd wx gk gr gv lo l p3 false x b∧Ch wr wx (OneR gr)))
    case first=>
     have hstop:∀wq,vtK x.p.pool l p1=none→Ch wr wq (OneR gr)→KrP R (VtsP w.heap.size) gk gr gv lo l x b w (.panicked brkC) wq:=fun wq h c=>by
      have hX:R=none:=by rw[←HR.out];exact Zs.out.2.2.2.2.stop hjn h
      rw[hX];exact⟨rfl,Zs.out.2.2.2.1.trans c (fun _ _ e=>e)⟩
     have Zw:=bx hstop;clear hstop HR Zs hjn HK;by_cases h7:k=7
     ·subst h7
      obtain⟨o2,ho2⟩:∃o2,numK 2 65535 l p2=o2:=⟨_,rfl⟩;have Sg:=bx ho2;clear ho2;have s1:w2.drew.cell? ⟨gk,1,none⟩=some (.pointer (some ⟨gv,0,none⟩)):=(Zm.out.box.cell 1).trans rfl;have hlt:=Zm.out.lt.1;go_wp2_with fail
      refine Y9y (S:=fun w'=>w'.cell? ⟨gk,1,none⟩=some (.pointer (some ⟨gv,0,none⟩))) (.tk 0 (.tk 1 (.tk 2 (.tk 3 (.tk 4 (.rn 5 (.rn 6 (.tk 7 (.rn 8 .fin))))))))) (by kernel_rfl) (by kernel_rfl) (by kernel_rfl) (fun _ _ _ _ h=>h) s1 ?_;refine SeqW.take (o:=?sp1) (v:=?sv1) ?so1 (Or.inl ⟨?sw1,?sy1⟩) ?sr1
      case so1=>rfl
      case sw1=>rfl
      case sy1=>(intro w hSw;(try dsimp only at hSw);go_simp <;> with_reducible rfl)
      simp only[Act.put,Z04,Z05,Z06];refine SeqW.take (o:=?sp2) (v:=?sv2) ?so2 (Or.inl ⟨?sw2,?sy2⟩) ?sr2
      case so2=>rfl
      case sw2=>rfl
      case sy2=>(intro w hSw;(try dsimp only at hSw);go_simp <;> with_reducible rfl)
      simp only[Act.put,Z04,Z05,Z06];refine SeqW.take (o:=?sp3) (v:=?sv3) ?so3 (Or.inl ⟨?sw3,?sy3⟩) ?sr3
      case so3=>rfl
      case sw3=>rfl
      case sy3=>(intro w hSw;(try dsimp only at hSw);go_simp <;> with_reducible rfl)
      simp only[Act.put,Z04,Z05,Z06];refine SeqW.take (o:=?sp4) (v:=?sv4) ?so4 (Or.inl ⟨?sw4,?sy4⟩) ?sr4
      case so4=>rfl
      case sw4=>rfl
      case sy4=>(intro w hSw;(try dsimp only at hSw);go_simp <;> with_reducible rfl)
      simp only[Act.put,Z04,Z05,Z06];refine SeqW.take (o:=?sp5) (v:=?sv5) ?so5 (Or.inl ⟨?sw5,?sy5⟩) ?sr5
      case so5=>rfl
      case sw5=>rfl
      case sy5=>(intro w hSw;(try dsimp only at hSw);go_simp <;> with_reducible rfl)
      simp only[Act.put,Z04,Z05,Z06];have hk3d:Krd w2.drew gk gr gv lo l p2 false x b:=Zm.out.below (below_drewN (Below.refl _ _) 1);refine SeqW.run rfl (fun K hK hP=>?_);go_wp2_with fail
      refine(Y5m 2 65535 gk gr gv lo l p2 x b _ hk3d (by decide) (by decide)).mono ?_
      intro e w3 hp;obtain⟨hp,hc3⟩:=hp;rw[Sg.out]at hp;have hc3:Ch w2 w3 (OneR gr):=(((Ch.refl w2).drewN 1).trans hc3 (fun _ _ e=>e));have Yh:=bx hc3;clear hc3;cases o2 with
      | none=>have hp:e = .panicked brkC:=hp;subst hp;go_wp2;refine hP.out _ _ _ ?_;exact⟨rfl,Zw.out _ (by rw[Kq.out];exact W7o Sg.out) (Yu.out.trans Yh.out (fun _ _ e=>e))⟩
      | some r=>
       obtain⟨i,p3⟩:=r;obtain⟨hp,hk4⟩:=hp;have hp:e = .returned (.int .i64 (i:Int)):=hp;subst hp;have Zq:=bx hk4;clear hk4 hk3d;go_wp2;refine hK.out _ _ ((Zq.out.box.cell 1).trans rfl) ?_;clear hK hP K;refine SeqW.run rfl (fun K hK hP=>?_);go_wp2_with fail
       obtain⟨o3,ho3⟩:∃o3,clsK x.p.pool i=o3:=⟨_,rfl⟩;have Bp:=bx (Y4g x b gv i w3 Zq.out.vw);rw[ho3]at Bp;have Mz:=bx ho3;clear ho3;refine Bp.out.mono ?_;intro e w4 hp;obtain⟨hp,hb4⟩:=hp;have Yl:=bx (Yh.out.trans (Ch.of_below (S:=OneR gr) hb4) (fun _ _ e=>e));have Zj:=bx (Zq.out.below hb4);clear hb4 Bp Zq Yh;cases o3 with
       | none=>have hp:e = .panicked brkC:=hp;subst hp;go_wp2;refine hP.out _ _ _ ?_;exact⟨rfl,Zw.out _ (by rw[Kq.out];exact W5u Sg.out Mz.out) (Yu.out.trans Yl.out (fun _ _ e=>e))⟩
       | some s=>
        have hp:e = .returned (.string ⟨s.toArray⟩):=hp;subst hp;have Ye:=bx (Xy.out.ch Yl.out (fun e=>by have e:g=gr:=e;have:=HG.out;omega));go_wp2;refine hK.out _ _ ((Zj.out.box.cell 1).trans rfl) ?_;clear hK hP K;refine SeqW.take (o:=?sp6) (v:=?sv6) ?so6 (Or.inl ⟨?sw6,?sy6⟩) ?sr6
        case so6=>rfl
        case sw6=>rfl
        case sy6=>(intro w hSw;(try dsimp only at hSw);go_simp <;> with_reducible rfl)
        simp only[Act.put,Z04,Z05,Z06];refine SeqW.run rfl (fun K hK hP=>?_);have hfz:=Ye.out.frz 1;have hcl:=Ye.out.cell 1;simp only[Z17,Z16,List.getElem?_cons_succ]at hcl;go_wp2_with fail
        have hcs:Ch w4 (w4.setCell ⟨g,1,none⟩ (.string ⟨s.toArray⟩)) (OneR g):=Ch.one;have hk6:=Zj.out.far hcs (fun k hk e=>by have e:k=g:=e;have:=HG.out;have:=Zj.out.ord;omega);refine hK.out _ _ ((hk6.box.cell 1).trans rfl) ?_;clear hK hP K hfz hcl;refine SeqW.done ?_;go_wp2
        go_meet
        exact⟨⟨7,s,0⟩,p3,bx ⟨by rw[Kq.out];exact W6r Sg.out Mz.out,Ye.out.set 1 _,hk6,(Yu.out.trans Yl.out (fun _ _ e=>e)).trans hcs (fun k hk e=>by have e:k=g:=e;have:=Jm.out;omega)⟩⟩
     ·have h7I:((k:Int)==7)=false:=by simp;omega
      by_cases h8:k=8
      ·subst h8
       obtain⟨o2,ho2⟩:∃o2,numK 2 65535 l p2=o2:=⟨_,rfl⟩;have Sg:=bx ho2;clear ho2;have hlt:=Zm.out.lt.1;go_wp2_with fail
       refine(Y5m 2 65535 gk gr gv lo l p2 x b _ Zm.out (by decide) (by decide)).mono ?_
       intro e w3 hp;obtain⟨hp,hc3⟩:=hp;rw[Sg.out]at hp;have Yh:=bx hc3;clear hc3;cases o2 with
       | none=>have hp:e = .panicked brkC:=hp;subst hp;go_wp2;exact⟨rfl,Zw.out _ (by rw[Kq.out];exact W3z Sg.out) (Yu.out.trans Yh.out (fun _ _ e=>e))⟩
       | some r=>
        obtain⟨i,p3⟩:=r;obtain⟨hp,hk4⟩:=hp;have hp:e = .returned (.int .i64 (i:Int)):=hp;subst hp;have Zq:=bx hk4;have Ye:=bx (Xy.out.ch Yh.out (fun e=>by have e:g=gr:=e;have:=HG.out;omega));clear hk4;have hfz:=Ye.out.frz 2;have hcl:=Ye.out.cell 2;simp only[Z17,Z16,List.getElem?_cons_succ]at hcl;go_wp2_with fail
        go_meet
        have hcs:Ch w3 (w3.setCell ⟨g,2,none⟩ (.int .i64 (i:Int))) (OneR g):=Ch.one;have hk6:=Zq.out.far hcs (fun k hk e=>by have e:k=g:=e;have:=HG.out;have:=Zq.out.ord;omega);exact⟨⟨8,[],i⟩,p3,bx ⟨by rw[Kq.out];exact W6u Sg.out,Ye.out.set 2 _,hk6,(Yu.out.trans Yh.out (fun _ _ e=>e)).trans hcs (fun k hk e=>by have e:k=g:=e;have:=Jm.out;omega)⟩⟩
      ·have h8I:((k:Int)==8)=false:=by simp;omega
       have hcl:=Xy.out.cell 0;simp only[Z17,Z16,List.getElem?_cons_succ]at hcl;by_cases h1:k≤1
       ·have h1I:(k:Int)≤1:=by omega
        have h1d:decide ((k:Int)≤1)=true:=Z46 h1I;go_wp2_with fail
        refine(Y7t _).mono ?_
        rintro e w3 ⟨rfl,hw⟩;obtain rfl:w2=w3:=hw.symm;go_wp2_with fail
        go_meet
        exact⟨⟨k,[],0⟩,p2,bx ⟨by rw[Kq.out];exact X4k h7 h8 (.inl h1),Xy.out,Zm.out,Yu.out⟩⟩
       ·have h1I:¬(k:Int)≤1:=by omega
        have h1d:decide ((k:Int)≤1)=false:=Z47 h1I;by_cases h4:4≤k
        ·have h4I:4≤(k:Int):=by omega
         have h4d:decide (4≤(k:Int))=true:=Z46 h4I;go_wp2_with fail
         refine(Y7t _).mono ?_
         rintro e w3 ⟨rfl,hw⟩;obtain rfl:w2=w3:=hw.symm;go_wp2_with fail
         go_meet
         exact⟨⟨k,[],0⟩,p2,bx ⟨by rw[Kq.out];exact X4k h7 h8 (.inr h4),Xy.out,Zm.out,Yu.out⟩⟩
        ·have h4I:¬4≤(k:Int):=by omega
         have h4d:decide (4≤(k:Int))=false:=Z47 h4I;go_wp2_with fail
         refine(Y7p _).mono ?_
         rintro e w3 ⟨rfl,hw⟩;obtain rfl:w2=w3:=hw.symm;go_wp2;exact⟨rfl,Zw.out _ (by rw[Kq.out];exact W4c h7 h8 (by omega)) Yu.out⟩
    case rest=>
     obtain⟨y,p3,hC⟩:=hcut;obtain rfl:=HV.out;have Qi:=bx (Zs.out.2.1.one hC.out.2.2.2 HK.out.lt.2.1);have HX:=bx (Zs.out.2.2.2.2.next hjn hC.out.1);have Nf:=bx Zs.out.1;have Ld:Bx ((acc.length+[y].length)*32≤140737488355328):=bx (by simp only[Z13,Z20];have:=Zs.out.1;omega);have Xz:=bx (Zs.out.2.2.2.1.trans hC.out.2.2.2 (fun _ _ e=>e));have c0:=hC.out.2.1.cell 0;have c1:=hC.out.2.1.cell 1;have c2:=hC.out.2.1.cell 2;simp only[Z17,Z16,List.getElem?_cons_succ]at c0 c1 c2;have Zj:=bx hC.out.2.2.1;have Zc:=bx (RS.new (fC:=vtC) wc y #[.int .i64 y.kind,strQ y.name,.int .i64 y.at_] rfl 60 (0,0));have hz:w.heap.size≤wc.heap.size:=Xz.out.size;clear hC Zs Jm Kq HV;go_step;go_wp2_with (at_builtin;refine Y9v _ vtCels rfl (.tmp 39) (.tmp 41) rfl vtTy (by decide) w.heap.size (.slice A2 acc.length c2_) acc rfl (OwS.alloc Qi.out _) (wc.heap.size+1) (some ⟨wc.heap.size,0,none⟩) 1 1 [y] rfl rfl Zc.out Ld.out (Y4w hz _) ?_;intro V7 w7 hO7 hg7 hv7 hb7;have Qn:=bx hO7)
     go_roundw
     case rel=>have hcl:Ch wc w7 (fun k=>w.heap.size≤k):=Ch.of_low ((Y9z (Below.refl _ wc) hz _).trans hb7);have hlt:=HK.out.lt;have hord:=HK.out.ord;exact⟨j+1,acc++[y],p3,by omega,by go_num,bx ⟨by rw[Z08,Nf.out];rfl,Qn.out,Zj.out.far hcl (fun k hk e=>by have e:w.heap.size≤k:=e;omega),Xz.out.trans hcl (fun k hk e=>by have e:w.heap.size≤k:=e;omega),HX.out⟩⟩
     case measure=>simp [intOf];omega
  ·have hjI:¬(j:Int)<(n:Int):=by omega
   have hjn2:j=n:=(by omega);have HE:=bx hjn2;have hO9:=bx (show OwS vtC 3 wr w.heap.size 60 (.slice A2 acc.length c2_) acc from hv2 ▸ Zs.out.2.1);clear hjn2;go_wp2;go_ret;have hX:=Zs.out.2.2.2.2;rw[HE.out]at hX;have hX2:R=some (acc,p1):=HR.out.symm.trans hX.done;rw[hX2];exact⟨⟨⟨.slice A2 acc.length c2_,rfl,hO9.out⟩,Zs.out.2.2.1⟩,Zs.out.2.2.2.1⟩
open Go.RowKit
def Nw (w0 wx:World) (k:Nat):Prop:=w0.heap.size≤k∧k<wx.heap.size
theorem Nw.ch {w0 wx w':World} {U:Nat→Prop} (c:Ch wx w' U) (hU:∀k,w0.heap.size≤k→¬U k):∀k,Nw w0 wx k→w'.heap[k]? = wx.heap[k]? := fun k hk=>c.same k hk.2 (hU k hk.1)
theorem Nw.up {w0 wx w':World} {U:Nat→Prop} (c:Ch wx w' U):∀k,Nw w0 wx k→Nw w0 w' k:=fun _ hk=>⟨hk.1,Z07 hk.2 c.size⟩
theorem SlX.of {w:World} {X:Nat→Prop} {B n c:Nat} {e:TypeId} {A:Option Addr} {l:List UInt8} (h:OwB w B e (.slice A n c) l) (hX:∀k,B≤k→k<w.heap.size→X k):SlX w X ⟨A,n,c,l⟩:=by
 have hh:=h;obtain⟨A',c',e1,hr,hc,hc2⟩:=OwL.rd h;injection e1 with e1 e2 e3
 subst e1 e2 e3;refine⟨rfl,hc,hc2,fun hn=>?_⟩;obtain⟨ad,e2,hx,hcl⟩:=hr hn;subst e2
 have hlo:=(World.ownsRow.lt hh ad.block (by
  rcases hh.2 with⟨e3,_⟩ | ⟨g,cap,cur,e3,_⟩
  ·injection e3 with e3 _ _;cases e3
  ·injection e3 with e3 _ _;injection e3 with e3;subst e3;rfl)).1
 exact⟨ad,rfl,hX _ hlo hx,hcl⟩
structure Kst (T:TypeId) (wr wx:World) (g gk gr gv lo:Nat) (l:List UInt8) (p:Nat) (x:ImE) (b:Bool) (cs:Array Value):Prop where
 bk:Bk wx g T cs
 kd:Krd wx gk gr gv lo l p false x b
 ch:Ch wr wx (OneR gr)
 lo:gk<g∧gr<g∧gv<g∧wr.heap.size≤g
theorem SqX.of {α:Type} {fC:α→List Value} {w:World} {X:Nat→Prop} {B sz n c:Nat} {e:TypeId} {A:Option Addr} {l:List α} (h:OwS fC sz w B e (.slice A n c) l) (hX:∀k,B≤k→k<w.heap.size→X k):SqX fC w X ⟨A,n,c,l⟩:=by
 obtain⟨⟨A',n',c',l'⟩,hv,hl,hs⟩:=SqX.own h hX;unfold Sq.v at hv;injection hv with e1 e2 e3
 subst e1 e2 e3;have hl:l'=l:=hl;subst hl;exact hs
section
variable {T:TypeId} {wr wx w':World} {g gk gr gv lo:Nat} {l:List UInt8} {p p':Nat} {x:ImE} {b:Bool} {cs:Array Value}
theorem Kst.new (cs:Array Value) (h:Krd wx gk gr gv lo l p false x b) (c:Ch wr wx (OneR gr)):Kst T wr (wx.alloc (.cells cs T)) wx.heap.size gk gr gv lo l p x b cs:=
 ⟨Bk.new _ _ _,h.below (Y9z (Below.refl _ _) (Z00 _) _),c.alloc _,by have:=h.lt;exact⟨this.1,this.2.1,this.2.2,c.size⟩⟩
theorem Kst.set (h:Kst T wr wx g gk gr gv lo l p x b cs) (i:Nat) (u:Value):Kst T wr (wx.setCell ⟨g,i,none⟩ u) g gk gr gv lo l p x b (cs.setIfInBounds i u):=
 ⟨h.bk.set i u,h.kd.far Ch.one (fun k hk e=>by have e:k=g:=e;have:=h.lo;omega),h.ch.trans Ch.one (fun k hk e=>by have e:k=g:=e;have:=h.lo;omega),h.lo⟩
theorem Kst.step (h:Kst T wr wx g gk gr gv lo l p x b cs) (c:Ch wx w' (OneR gr)) (hk:Krd w' gk gr gv lo l p' false x b):Kst T wr w' g gk gr gv lo l p' x b cs:=
 ⟨h.bk.ch c (fun e=>by have e:g=gr:=e;have:=h.lo;omega),hk,h.ch.trans c (fun _ _ e=>e),h.lo⟩
theorem Kst.below (h:Kst T wr wx g gk gr gv lo l p x b cs) (c:Below wx.heap.size wx w'):Kst T wr w' g gk gr gv lo l p x b cs:=h.step (Ch.of_below c) (h.kd.below c)
theorem Kst.chg {U:Nat→Prop} {B:Nat} (h:Kst T wr wx g gk gr gv lo l p x b cs) (c:Ch wx w' U) (hU:∀k,U k→B≤k∧k≠g) (hB:gr<B∧gk<B):Bk w' g T cs∧Krd w' gk gr gv lo l p false x b:=
 ⟨h.bk.ch c (fun e=>(hU _ e).2 rfl),h.kd.far c (fun k hk e=>by have:=(hU k e).1;omega)⟩
theorem Kst.frz (h:Kst T wr wx g gk gr gv lo l p x b cs) (i:Nat):wx.frozen? ⟨g,i,none⟩=false:=h.bk.frz i
theorem Kst.cell (h:Kst T wr wx g gk gr gv lo l p x b cs) {i:Nat} {u:Value} (hu:cs[i]? = some u):wx.cell? ⟨g,i,none⟩=some u:=(h.bk.cell i).trans hu
theorem Kst.lt (h:Kst T wr wx g gk gr gv lo l p x b cs):g<wx.heap.size:=h.bk.lt
theorem OwS.far {α:Type} {fC:α→List Value} {sz base i:Nat} {e:TypeId} {v u:Value} {L:List α} (h:OwS fC sz wx base e v L) (hg:g<base):OwS fC sz (wx.setCell ⟨g,i,none⟩ u) base e v L:=
 h.set_other (p:=⟨g,i,none⟩) (fun e=>by have:=(h.blk e).1;show False;have:base≤g:=this;omega) u
end
section
variable {R:Ending→World→Prop} {gk gr gv lo:Nat} {l:List UInt8} {p:Nat} {x:ImE} {b:Bool} {w:World}
theorem Y9x (c:Bool) (hno:c=false→R (.panicked brkC) w) (hyes:c=true→R (.returned (.tuple #[])) w):Calls Tryz.prog 54 #[.bool c] w R:=by
 cases c with
 | false=>exact(Y7p w).mono (by rintro e w' ⟨rfl,hw⟩;obtain rfl:w=w':=hw.symm;exact hno rfl)
 | true=>exact(Y7t w).mono (by rintro e w' ⟨rfl,hw⟩;obtain rfl:w=w':=hw.symm;exact hyes rfl)
theorem Y9b (n most:Nat) (h:Krd w gk gr gv lo l p false x b) (hn:1≤n∧n≤4) (hm:most≤4294967296)
  (hno:numK n most l p=none→∀w',Ch w w' (OneR gr)→R (.panicked brkC) w')
  (hyes:∀v p',numK n most l p=some (v,p')→∀w',Ch w w' (OneR gr)→Krd w' gk gr gv lo l p' false x b→R (.returned (.int .i64 (v:Int))) w') :
  Calls Tryz.prog 112 #[.pointer (some ⟨gk,0,none⟩),.int .i64 (n:Int),.int .i64 (most:Int)] w R:=by
 refine(Y5m n most gk gr gv lo l p x b w h hn hm).mono ?_
 intro e w' hp;obtain⟨hp,hc⟩:=hp;cases ho:numK n most l p with
 | none=>rw[ho]at hp;have hp:e = .panicked brkC:=hp;subst hp;exact hno ho _ hc
 | some r=>obtain⟨v,p'⟩:=r;rw[ho]at hp;obtain⟨hp,hk⟩:=hp;have hp:e = .returned (.int .i64 (v:Int)):=hp;subst hp;exact hyes v p' ho _ hc hk
theorem Y7a (n:Nat) (h:Krd w gk gr gv lo l p false x b) (hn:n≤1000000)
  (hno:repK (vtK x.p.pool) n l p=none→∀w',Ch w w' (OneR gr)→R (.panicked brkC) w')
  (hyes:∀r p' A m c,repK (vtK x.p.pool) n l p=some (r,p')→∀w',Ch w w' (OneR gr)→Krd w' gk gr gv lo l p' false x b→OwS vtC 3 w' w.heap.size 60 (.slice A m c) r→R (.returned (.slice A m c)) w') :
  Calls Tryz.prog 139 #[.pointer (some ⟨gk,0,none⟩),.int .i64 (n:Int)] w R:=by
 refine(X7s n gk gr gv lo l p x b w h hn).mono ?_
 intro e w' hp;obtain⟨hp,hc⟩:=hp;cases ho:repK (vtK x.p.pool) n l p with
 | none=>rw[ho]at hp;have hp:e = .panicked brkC:=hp;subst hp;exact hno ho _ hc
 | some r=>obtain⟨v,p'⟩:=r;rw[ho]at hp;obtain⟨⟨u,rfl,hO⟩,hk⟩:=hp;obtain⟨A,c,rfl,_,_⟩:=hO.rd;exact hyes v p' A v.length c ho _ hc hk hO
theorem Y9f {gv:Nat} (i:Int) (hv:Vw w gv x b)
  (hno:txtK x.p.pool i=none→∀w',Below w.heap.size w w'→R (.panicked brkC) w')
  (hyes:∀s,txtK x.p.pool i=some s→∀w',Below w.heap.size w w'→R (.returned (.string ⟨s.toArray⟩)) w') :
  Calls Tryz.prog 78 #[.pointer (some ⟨gv,0,none⟩),.int .i64 i] w R:=by
 refine(X5c x b gv i w hv).mono ?_
 intro e w' hp;obtain⟨hp,hb⟩:=hp;cases ho:txtK x.p.pool i with
 | none=>rw[ho]at hp;have hp:e = .panicked brkC:=hp;subst hp;exact hno ho _ hb
 | some s=>rw[ho]at hp;have hp:e = .returned (.string ⟨s.toArray⟩):=hp;subst hp;exact hyes s ho _ hb
theorem Y8n {gv:Nat} (i:Int) (hv:Vw w gv x b)
  (hno:plainK x.p.pool i=none→∀w',Below w.heap.size w w'→R (.panicked brkC) w')
  (hyes:∀s,plainK x.p.pool i=some s→∀w',Below w.heap.size w w'→R (.returned (.string ⟨s.toArray⟩)) w') :
  Calls Tryz.prog 53 #[.pointer (some ⟨gv,0,none⟩),.int .i64 i] w R:=by
 refine(X6w x b gv i w hv).mono ?_
 intro e w' hp;obtain⟨hp,hb⟩:=hp;cases ho:plainK x.p.pool i with
 | none=>rw[ho]at hp;have hp:e = .panicked brkC:=hp;subst hp;exact hno ho _ hb
 | some s=>rw[ho]at hp;have hp:e = .returned (.string ⟨s.toArray⟩):=hp;subst hp;exact hyes s ho _ hb
theorem Y3b {n p p':Nat} {d l:List UInt8} (h:bytK n l p=some (d,p')):d.length=n∧p'=p+n∧p+n≤l.length:=by
 unfold bytK at h
 split at h
 ·injection h with h
  injection h with h1 h2
  subst h1 h2;exact⟨by rw[Z31,List.length_drop];omega,rfl,by assumption⟩
 ·cases h
theorem Y1c (n:Nat) (h:Krd w gk gr gv lo l p false x b)
  (hno:bytK n l p=none→∀A c w',Ch w w' (OneR gr)→Krd w' gk gr gv lo l p true x b→R (.returned (.slice A 0 c)) w')
  (hyes:∀d A c,bytK n l p=some (d,p+n)→∀w',Ch w w' (OneR gr)→Krd w' gk gr gv lo l (p+n) false x b→OwB w' w.heap.size 5 (.slice A n c) d→R (.returned (.slice A n c)) w') :
  Calls Tryz.prog 113 #[.pointer (some ⟨gr,0,none⟩),.int .i64 (n:Int)] w R:=by
 refine(X6g gr lo l p false n w h.rd).mono ?_
 rintro e w' ⟨r,rfl,hO,hr,hg⟩;have hc:=Y4a hg;by_cases hp:p+n≤l.length
 ·have hok:okB l p false (n:Int)=true:=by simp [okB];omega
  unfold bytAt at hr;unfold bytV at hO;rw[hok]at hr hO;rw[if_pos rfl,Z33]at hr hO;have hb:bytK n l p=some ((l.drop p).take n,p+n):=by unfold bytK;rw[if_pos hp]
  obtain⟨A,c,rfl,_⟩:=OwL.rd hO;have hl:=(Y3b hb).1;rw[hl]at hO ⊢;exact hyes _ A c hb w' hc (h.on hr hc) hO
 ·have hok:okB l p false (n:Int)=false:=by simp [okB];omega
  unfold bytAt at hr;unfold bytV at hO;rw[hok]at hr hO;rw[if_neg (by decide)]at hr hO;obtain⟨A,c,rfl,_⟩:=OwL.rd hO;exact hno (by unfold bytK;rw[if_neg hp]) A c w' hc (h.on hr hc)
theorem X2r (h:Krd w gk gr gv lo l p false x b)
  (hno:endK l p=none→∀w',Below w.heap.size w w'→R (.panicked brkC) w')
  (hyes:endK l p=some ((),p)→∀w',Below w.heap.size w w'→R (.returned (.tuple #[])) w') :
  Calls Tryz.prog 115 #[.pointer (some ⟨gk,0,none⟩)] w R:=by
 refine(W8t gk gr gv lo l p false x b w h).mono ?_
 intro e w' hp;obtain⟨rfl,hb⟩:=hp;by_cases hpl:p=l.length
 ·rw[if_pos (by simp [hpl])]
  exact hyes (by unfold endK;rw[if_pos hpl]) _ hb
 ·rw[if_neg (by simp [hpl])]
  exact hno (by unfold endK;rw[if_neg hpl]) _ hb
end
open Go.RowKit
set_option linter.unusedSimpArgs false
def slC (s:Sl):List Value:=[slV s]
theorem slCels:Cels slC 1:=⟨fun _=>rfl,fun x u hu=>by
 simp only[slC,Z27,List.not_mem_nil,or_false]at hu;rcases hu with rfl;rfl,by decide⟩
theorem slTy:ETy Tryz.prog 174 41 (.slice none 0 0) 1 24:=⟨Tryz.underlying174,info_parts (by kernel_rfl),rfl,by decide⟩
def NamI (pool:List Cst) (what:List UInt8) (L:List Att) (i:Nat) (acc:List (List UInt8)):Prop:=namK pool what L=(namK pool what (L.drop i)).map fun r=>acc++r
section
variable {pool:List Cst} {what s:List UInt8} {L:List Att} {i:Nat} {acc:List (List UInt8)} {a:Att}
theorem NamI.start:NamI pool what L 0 []:=by
 unfold NamI;rw[List.drop_zero];cases namK pool what L <;> rfl
theorem NamI.stop (h:NamI pool what L i acc) (ha:L[i]? = some a) (hs:txtK pool a.name=none):namK pool what L=none:=by
 unfold NamI at h;obtain⟨hi,e⟩:=Z24.1 ha;rw[h,Z42 hi,e];unfold namK;rw[hs]
 rfl
theorem NamI.next (h:NamI pool what L i acc) (ha:L[i]? = some a) (hs:txtK pool a.name=some s):NamI pool what L (i+1) (if s=what then acc++[a.data] else acc):=by
 unfold NamI at h ⊢;obtain⟨hi,e⟩:=Z24.1 ha;rw[h,Z42 hi,e]
 conv=>lhs;unfold namK
 rw[hs];cases namK pool what (List.drop (i+1) L) with
 | none=>rfl
 | some r=>
  show some _=some _
  split <;> simp
theorem NamI.done (h:NamI pool what L L.length acc):namK pool what L=some acc:=by
 unfold NamI at h;rw[h,List.drop_length];show some (acc++[])=_;rw[Z14]
end
def NamP (L:List AtE) (w:World) (o:Option (List (List UInt8))) (e:Ending) (w':World):Prop:=
 (match o with
  | some vs=>∃A n c,∃ps:List Sl,e = .returned (.slice A n c)∧OwS slC 1 w' w.heap.size 41 (.slice A n c) ps∧ps.map (·.l)=vs∧∀p∈ps,∃a∈L,a.s=p
  | none=>e = .panicked brkC)∧Below w.heap.size w w'
theorem Y3w (x:ImE) (b:Bool) (gv B:Nat) (A:Option Addr) (n c:Nat) (L:List AtE) (what:List UInt8) (w:World) (hv:Vw w gv x b) (hr:RA w B A L) (hB:B≤w.heap.size) (hn:L.length=n) (hl:n≤100000000) :
  Calls Tryz.prog 84 #[.pointer (some ⟨gv,0,none⟩),.slice A n c,.string ⟨what.toArray⟩] w (NamP L w (namK x.p.pool what (L.map AtE.p))):=by
 obtain⟨R,hR⟩:∃R,namK x.p.pool what (L.map AtE.p)=R:=⟨_,rfl⟩;rw[hR];have HR:=bx hR;have HV:=bx hv;have T0:=bx hr;have HN:=bx hn;clear hv hr hR hn
 go_enter Tryz.func84,Tryz.ntmps84
 go_wp2_with fail
 go_loopw [7,12] (fun v iv wx=>∃(i:Nat) (ps:List Sl),i≤n∧iv = .int .i64 (i:Int)∧Bx (ps.length≤i∧OwS slC 1 wx w.heap.size 41 v ps∧(∀p∈ps,∃a∈L,a.s=p)∧Below w.heap.size w wx∧NamI x.p.pool what (L.map AtE.p) i (ps.map (·.l)))) (fun _ iv _=>n-(intOf iv).toNat)
 case atStart=>exact⟨0,[],by omega,rfl,bx ⟨Z00 _,OwS.nil,fun p hp=>(by cases hp),Below.refl _ _,NamI.start⟩⟩
 case round=>
  obtain⟨i,ps,hi,rfl,Zs⟩:=hrel;obtain⟨A2,c2_,hv2,_,_⟩:=OwS.rd Zs.out.2.1;obtain⟨n2,hn2⟩:∃n2,ps.length=n2:=⟨_,rfl⟩;rw[hn2]at hv2;subst hv2;have Tp:=bx hn2;clear hn2;by_cases hin:i<n
  ·have hiI:(i:Int)<(n:Int):=by omega
   obtain⟨ad,a,rfl,hab,HA,c0,c1,Wh⟩:=RA.at_ (T0.out.below Zs.out.2.2.2.1 hB) (k:=i) (by rw[HN.out];exact hin);go_wp2_with fail
   have hb1:=Y9z (Below.refl wr.heap.size wr) (Z00 _) (.cells #[.int .i64 a.name,.slice a.s.A a.s.n a.s.c] 82);have Wd:=bx (Bk.new wr 82 #[.int .i64 a.name,.slice a.s.A a.s.n a.s.c]);have Se:=bx (Zs.out.2.1.step hb1);have Zi:=bx (Zs.out.2.2.2.1.trans (hb1.mono Zs.out.2.2.2.1.size));have Ct:Bx ((L.map AtE.p)[i]? = some a.p):=bx (by rw[List.getElem?_map,HA.out];rfl);have Qh:Bx (a∈L):=bx (Z15 HA.out);generalize hw1:wr.alloc (.cells #[.int .i64 a.name,.slice a.s.A a.s.n a.s.c] 82)=w1 at Se Zi Wd hb1 ⊢;have HG:Bx (wr.heap.size<w1.heap.size):=bx (by rw[←hw1];simp);clear hw1 hb1 HA c0 c1 Wh;refine Y9f (x:=x) (b:=b) a.name (HV.out.below Zi.out) ?_ ?_
   ·intro h w2 hb
    have HX:Bx (R=none):=bx (by rw[←HR.out];exact Zs.out.2.2.2.2.stop Ct.out h);go_wp2;rw[HX.out];exact⟨rfl,rfl,Zi.out.trans (hb.mono Zi.out.size)⟩
   intro s hs w2 hb;have HT:Bx (txtK x.p.pool a.name=some s):=bx hs;have Wj:=bx (Zi.out.trans (hb.mono Zi.out.size));have Wn:=bx (Se.out.step hb);have O4:=bx (Wd.out.below hb HG.out);have Zd:Bx (wr.heap.size<w2.heap.size):=bx (Z07 HG.out hb.size);have Jg:=bx (Zs.out.2.2.2.2.next Ct.out HT.out);have Xu:Bx (ps.length≤i∧∀p∈ps,∃a∈L,a.s=p):=bx ⟨Zs.out.1,Zs.out.2.2.1⟩;clear hs hb Se Zi Wd HG Zs HT
   go_upto_if 21 with(fail)
   obtain⟨qb,hqb⟩:∃qb,(s==what)=qb:=⟨_,rfl⟩;rw[hqb];have Tm:Bx (qb=false→s≠what):=bx (fun e=>by rw[e]at hqb;intro e2;rw[e2]at hqb;simp at hqb);have Tk:Bx (qb=true→s=what):=bx (fun e=>by rw[e]at hqb;exact eq_of_beq hqb);clear hqb;cases qb with
   | false=>
    have O3:Bx (NamI x.p.pool what (L.map AtE.p) (i+1) (ps.map (·.l))):=bx (by have:=Jg.out;rwa [if_neg (Tm.out rfl)]at this);go_wp2_with fail
    go_roundw
    case rel=>exact⟨i+1,ps,by omega,by go_num,bx ⟨by have:=Xu.out.1;omega,Wn.out,Xu.out.2,Wj.out,O3.out⟩⟩
    case measure=>simp [intOf];omega
   | true=>
   have O3:Bx (NamI x.p.pool what (L.map AtE.p) (i+1) ((ps++[a.s]).map (·.l))):=bx (by have:=Jg.out;rw[if_pos (Tk.out rfl)]at this;rw[Z30];exact this);have hg:=Zd.out;have hcl:w2.cell? ⟨wr.heap.size,1,none⟩=some (.slice a.s.A a.s.n a.s.c):=(O4.out.cell 1).trans rfl;have Zc:=bx (RS.new (fC:=slC) w2 a.s #[.slice a.s.A a.s.n a.s.c] rfl 41 (0,0));have Ld:Bx ((ps.length+[a.s].length)*24≤140737488355328):=bx (by simp only[Z13,Z20];have:=Xu.out.1;omega);have hz:w.heap.size≤w2.heap.size:=Wj.out.size;clear Jg Tm Tk;go_wp2_with (at_builtin;refine Y9v _ slCels rfl (.tmp 22) (.tmp 25) rfl slTy (by decide) w.heap.size (.slice A2 n2 c2_) ps rfl (OwS.alloc Wn.out _) (w2.heap.size+1) (some ⟨w2.heap.size,0,none⟩) 1 1 [a.s] rfl rfl Zc.out Ld.out (Y4w hz _) ?_;intro V7 w7 hO7 hg7 hv7 hb7;have Qn:=bx hO7;have Xn:=bx hb7)
   go_roundw
   case rel=>
    exact⟨i+1,ps++[a.s],by omega,by go_num,bx ⟨by have:=Xu.out.1;simp only[Z08,Z13,Z20];omega,Qn.out,fun p hp=>by
     rcases List.mem_append.1 hp with h | h
     ·exact Xu.out.2 p h
     ·have e:p=a.s:=by simpa using h
      exact⟨a,Qh.out,e.symm⟩,((Wj.out.trans (Y9z (Below.refl _ w2) hz _))).trans Xn.out,O3.out⟩⟩
   case measure=>simp [intOf];omega
  ·have hiI:¬(i:Int)<(n:Int):=by omega
   have HE:Bx (i=(L.map AtE.p).length):=bx (by rw[Z22,HN.out];omega);have HX:Bx (R=some (ps.map (·.l))):=bx (by have h1:=Zs.out.2.2.2.2;rw[HE.out]at h1;exact HR.out.symm.trans h1.done);go_wp2;go_ret;rw[HX.out];exact⟨⟨A2,n2,c2_,ps,rfl,Zs.out.2.1,rfl,Zs.out.2.2.1⟩,Zs.out.2.2.2.1⟩
open Go.RowKit
set_option linter.unusedSimpArgs false
theorem Y6o (a b:Nat) (ha:a<65536) (hb:b<65536):bits .and .i64 (a:Int) (b:Int)=((a &&& b:Nat):Int):=
 (bits_nat .i64 16 (by decide) (fun n h1 h2=>by rw[IntKind.wrap_i64];omega) a b ha hb).1
theorem Y1w (n m:Nat) (hn:n<65536) (hm:m<65536):(n &&& (2 ^ 64-1-m)=0)↔n &&& m=n:=by
 constructor
 ·intro h
  refine Nat.eq_of_testBit_eq fun i=>?_;have h1:=congrArg (fun z=>z.testBit i) h;simp only[Nat.testBit_and,Nat.zero_testBit]at h1 ⊢;rw[show 2 ^ 64-1-m=2 ^ 64-(m+1) by omega,Nat.testBit_two_pow_sub_succ (by omega)]at h1;cases hb:n.testBit i with
  | false=>rfl
  | true=>
   rw[hb]at h1
   have hi:i<64:=by
    rcases Nat.lt_or_ge i 64 with h | h
    ·exact h
    ·rw[Nat.testBit_lt_two_pow (Z07 (show n<2 ^ 64 by omega) (Nat.pow_le_pow_right (by decide) h))]at hb
     cases hb
   simp [hi]at h1;simp [h1]
 ·intro h
  refine Nat.eq_of_testBit_eq fun i=>?_;have h1:=congrArg (fun z=>z.testBit i) h;simp only[Nat.testBit_and,Nat.zero_testBit]at h1 ⊢;rw[show 2 ^ 64-1-m=2 ^ 64-(m+1) by omega,Nat.testBit_two_pow_sub_succ (by omega)];cases hb:n.testBit i with
  | false=>rfl
  | true=>
   rw[hb]at h1
   have:m.testBit i=true:=by simpa using h1
   simp [this]
theorem X7e (a b:Nat) (ha:a<65536) (hb:b<65536):bits .andNot .i64 (a:Int) (b:Int)=((a &&& (2 ^ 64-1-b):Nat):Int):=by
 have hx:a &&& (2 ^ 64-1-b)≤a:=Nat.and_le_left;show IntKind.i64.wrap ((BitVec.ofInt 64 (a:Int) &&& ~~~BitVec.ofInt 64 (b:Int)).toNat:Int)=_;rw[BitVec.toNat_and,BitVec.toNat_not,BitVec.ofInt_natCast,BitVec.ofInt_natCast,BitVec.toNat_ofNat,BitVec.toNat_ofNat,Nat.mod_eq_of_lt (by omega),Nat.mod_eq_of_lt (by omega),IntKind.wrap_i64];omega
theorem W7p (n m:Nat) (hn:n<65536) (hm:m<65536):(bits .andNot .i64 (n:Int) (m:Int)==0)=bitsK n m:=by
 rw[X7e n m hn hm];unfold bitsK;by_cases h:n &&& m=n
 ·rw[Z46 h,(Y1w n m hn hm).2 h]
  rfl
 ·rw[Z47 h]
  have:n &&& (2 ^ 64-1-m)≠0:=fun e=>h ((Y1w n m hn hm).1 e)
  generalize n &&& (2 ^ 64-1-m)=z at this ⊢
  simp;omega
theorem Y6n (n m:Nat) (w:World) (hn:n<65536) (hm:m<65536):Calls Tryz.prog 55 #[.int .i64 (n:Int),.int .i64 (m:Int)] w fun e w'=>e = .returned (.bool (bitsK n m))∧w'=w:=by
 have HB:=bx (W7p n m hn hm)
 go_enter Tryz.func55,Tryz.ntmps55
 go_wp2;go_ret;exact⟨by rw[←HB.out];rfl,rfl⟩
theorem first3 (a:Nat) (ha:a<8):(bits .and .i64 (a:Int) ((a:Int)-1)==0)=decide (a=0∨a=1∨a=2∨a=4):=by
 have h8:a=0∨a=1∨a=2∨a=3∨a=4∨a=5∨a=6∨a=7:=(by omega);rcases h8 with rfl | rfl | rfl | rfl | rfl | rfl | rfl | rfl <;> decide
theorem Y4b {R:Ending→World→Prop} (n m:Nat) (w:World) (hn:n<65536) (hm:m<65536)
  (hno:accK n m=false→R (.panicked brkC) w) (hyes:accK n m=true→R (.returned (.tuple #[])) w):Calls Tryz.prog 83 #[.int .i64 (n:Int),.int .i64 (m:Int)] w R:=by
 have Yi:=bx hno;have O2:=bx hyes;obtain⟨a,ha⟩:∃a,n &&& 7=a:=⟨_,rfl⟩;have ha8:a<8:=by rw[←ha];exact Nat.lt_succ_of_le Nat.and_le_right
 have h7:bits .and .i64 (n:Int) 7=(a:Int):=by rw[←ha];exact Y6o n 7 hn (by decide)
 obtain⟨q,hq⟩:∃q,decide (a=0∨a=1∨a=2∨a=4)=q:=⟨_,rfl⟩;have hqb:(bits .and .i64 (a:Int) ((a:Int)-1)==0)=q:=(first3 a ha8).trans hq;obtain⟨z,hz⟩:∃z,bitsK n m=z:=⟨_,rfl⟩;have Jf:Bx (accK n m=(z&&q)):=bx (by unfold accK;rw[hz,ha,hq]);have HB:=bx (Y6n n m w hn hm);rw[hz]at HB;clear hno hyes ha hq hz hn hm
 go_enter Tryz.func83,Tryz.ntmps83
 go_wp2_with fail
 refine HB.out.mono ?_;rintro e w2 ⟨rfl,hw⟩;obtain rfl:w=w2:=hw.symm;clear HB;cases z with
 | false=>
  go_wp2_with fail
  refine Y9x _ (fun _=>?_) (fun e=>by cases e);go_wp2;exact⟨rfl,Yi.out (by rw[Jf.out];rfl)⟩
 | true=>
  cases q with
  | false=>
   go_wp2_with fail
   refine Y9x _ (fun _=>?_) (fun e=>by cases e);go_wp2;exact⟨rfl,Yi.out (by rw[Jf.out];rfl)⟩
  | true=>
   go_wp2_with fail
   refine Y9x _ (fun e=>by cases e) (fun _=>?_);go_wp2
   go_end0
   exact O2.out (by rw[Jf.out];rfl)
open Go.RowKit
section
variable {R:Ending→World→Prop} {x:ImE} {b:Bool} {w:World} {gv:Nat}
theorem Y7n (s:List UInt8) (meth:Bool) (hs:s.length≤2000000) (h:R (.returned (.bool (memberB s meth))) w) :
  Calls Tryz.prog 81 #[.string ⟨s.toArray⟩,.bool meth] w R:=by
 refine(X6q ⟨s.toArray⟩ meth w (by show s.toArray.size≤_;rw[List.size_toArray];omega)).mono ?_
 rintro e w' ⟨rfl,hw⟩;obtain rfl:w=w':=hw;exact h
theorem Y3k (s:List UInt8) (hv:Vw w gv x b) (hs:s.length≤2000000) (h:∀w',Below w.heap.size w w'→R (.returned (.bool (descB s))) w') :
  Calls Tryz.prog 80 #[.string ⟨s.toArray⟩] w R:=by
 obtain⟨m,hm⟩:=hv.mx.2
 refine(Y3d ⟨s.toArray⟩ m w (by show s.toArray.size≤_;rw[List.size_toArray];omega) hm).mono ?_
 rintro e w' ⟨rfl,hb⟩;exact h w' hb
theorem X5j (s:List UInt8) (hv:Vw w gv x b) (hs:s.length≤2000000) (h:∀w',Below w.heap.size w w'→R (.returned (.bool (classOk s))) w') :
  Calls Tryz.prog 79 #[.string ⟨s.toArray⟩] w R:=by
 obtain⟨m,hm⟩:=hv.mx.2
 refine(Y6m ⟨s.toArray⟩ m w (by show s.toArray.size≤_;rw[List.size_toArray];omega) hm).mono ?_
 rintro e w' ⟨rfl,hb⟩;exact h w' hb
theorem X3p (s:List UInt8) (h:R (.returned (.int .i64 (slotsN s))) w):Calls Tryz.prog 86 #[.string ⟨s.toArray⟩] w R:=by
 refine(Y2n ⟨s.toArray⟩ w).mono ?_
 rintro e w' ⟨rfl,hw⟩;obtain rfl:w=w':=hw;exact h
theorem X8b (s:List UInt8) (hv:Vw w gv x b) (hs:s.length≤2000000)
  (hno:methB s=none→∀A n c r k w',k≠0→Below w.heap.size w w'→R (.returned (.tuple #[.slice A n c,.string r,.int .i64 k])) w')
  (hyes:∀ps rs,methB s=some (ps,rs)→∀A n c w',ps.length=n→RL strV w' w'.heap.size A ps→Below w.heap.size w w'→R (.returned (.tuple #[.slice A n c,.string ⟨rs.toArray⟩,.int .i64 0])) w') :
  Calls Tryz.prog 71 #[.string ⟨s.toArray⟩] w R:=by
 obtain⟨m,hm⟩:=hv.mx.2
 refine(Y0o ⟨s.toArray⟩ m w (by show s.toArray.size≤_;rw[List.size_toArray];omega) hm).mono ?_
 rintro e w' ⟨A,n,c,rfl,hn,hr,hb⟩;cases ho:methB s with
 | none=>have h1:=X8d (l:=s) ho;have h2:methV (⟨s.toArray⟩:ByteArray).data.toList=([],[],24):=h1;rw[h2];exact hno ho A n c _ 24 w' (by decide) hb
 | some pr=>obtain⟨ps,rs⟩:=pr;have h1:=Y1q (l:=s) ho;have h2:methV (⟨s.toArray⟩:ByteArray).data.toList=(ps,rs,0):=h1;rw[h2]at hn hr ⊢;exact hyes ps rs ho A n c w' hn hr hb
end
open Go.RowKit
theorem frTy:ETy Tryz.prog 53 58 (.agg #[.int .i64 0,.int .i64 0,.slice none 0 0,.slice none 0 0]) 4 64:=⟨Tryz.underlying53,info_parts (by kernel_rfl),rfl,by decide⟩
theorem Y3p:(Tryz.prog.info? 58).map (·.size)=some 4:=by kernel_rfl
def frR (pool:List Cst) (t:Nat):Kr Frm:=
 if t<64 then retK ⟨t,t,[],[]⟩
 else if t<128 then bndK (repK (vtK pool) 1) fun s=>retK ⟨t,(t:Int)-64,[],s⟩
 else if t=255 then bndK (numK 2 65535) fun d=>bndK (numK 2 64) fun n=>bndK (repK (vtK pool) n) fun l=>bndK (numK 2 64) fun m=>bndK (repK (vtK pool) m) fun s=>retK ⟨t,d,l,s⟩
 else ifK (decide (247≤t)) (bndK (numK 2 65535) fun d=>
  if t=247 then bndK (repK (vtK pool) 1) fun s=>retK ⟨t,d,[],s⟩
  else if 251<t then bndK (repK (vtK pool) (t-251)) fun l=>retK ⟨t,d,l,[]⟩
  else retK ⟨t,d,[],[]⟩)
section
variable {pool:List Cst} {l:List UInt8} {p1 p2 t:Nat}
theorem W5x (h:numK 1 255 l p1=some (t,p2)):frmK pool l p1=frR pool t l p2:=Y9w h
theorem W7h (h:numK 1 255 l p1=none):frmK pool l p1=none:=Y9u h
theorem frR_a (h:t<64):frR pool t=retK ⟨t,t,[],[]⟩:=by
 unfold frR;rw[if_pos h]
theorem W3o (h:¬t<64) (h2:t<128):frR pool t=bndK (repK (vtK pool) 1) fun s=>retK ⟨t,(t:Int)-64,[],s⟩:=by
 unfold frR;rw[if_neg h,if_pos h2]
theorem frR_c:frR pool 255=bndK (numK 2 65535) fun d=>bndK (numK 2 64) fun n=>bndK (repK (vtK pool) n) fun l=>bndK (numK 2 64) fun m=>bndK (repK (vtK pool) m) fun s=>retK ⟨255,d,l,s⟩:=by
 unfold frR;rw[if_neg (by decide),if_neg (by decide),if_pos rfl]
 rfl
theorem frR_e (h:¬t<128) (h2:t<247):frR pool t l p2=none:=by
 unfold frR;rw[if_neg (by omega),if_neg h,if_neg (by omega),Z47 (by omega)]
 rfl
theorem W3n (h:247≤t) (h2:t<255) (hd:numK 2 65535 l p2=none):frR pool t l p2=none:=by
 unfold frR;rw[if_neg (by omega),if_neg (by omega),if_neg (by omega),Z46 h];unfold ifK;rw[if_pos rfl];exact Y9u hd
theorem frR_d {d p3:Nat} (h:247≤t) (h2:t<255) (hd:numK 2 65535 l p2=some (d,p3)):frR pool t l p2=(if t=247 then bndK (repK (vtK pool) 1) fun s=>retK ⟨t,d,[],s⟩
  else if 251<t then bndK (repK (vtK pool) (t-251)) fun l=>retK ⟨t,d,l,[]⟩
  else retK ⟨t,d,[],[]⟩:Kr Frm) l p3:=by
 unfold frR;rw[if_neg (by omega),if_neg (by omega),if_neg (by omega),Z46 h];unfold ifK;rw[if_pos rfl];exact Y9w hd
end
def frmsR (pool:List Cst):Kr (List Frm):=bndK (numK 2 256) fun n=>bndK (repK (frmK pool) n) fun l=>bndK endK fun _=>retK l
def FrsP (B:Nat) (r:List Frm) (e:Ending) (w':World):Prop:=∃v L,e = .returned v∧OwX frC 4 FrX w' B 58 v L∧L.map FrE.p=r
theorem OwX.one {α:Type} {fC:α→List Value} {sz B g:Nat} {P:World→(Nat→Prop)→α→Prop} {T:TypeId} {v:Value} {L:List α} {w w':World} (hP:StepX P) (h:OwX fC sz P w B T v L) (c:Ch w w' (OneR g)) (hg:g<B):OwX fC sz P w' B T v L:=
 ⟨h.own.one c hg,fun x hx=>hP (h.sub x hx) (fun k hk=>c.same k hk.2.1 (fun e=>by have e:k=g:=e;have:=hk.1;omega)) (fun _ hk=>⟨hk.1,Z07 hk.2.1 c.size,hk.2.2⟩)⟩
theorem X9p (gk gr gv lo:Nat) (l:List UInt8) (p:Nat) (x:ImE) (b:Bool) (w:World) (h:Krd w gk gr gv lo l p false x b) :
  Calls Tryz.prog 114 #[.pointer (some ⟨gk,0,none⟩)] w (KrP (frmsR x.p.pool l p) (FrsP w.heap.size) gk gr gv lo l x b w):=by
 obtain⟨R,hR⟩:∃R,frmsR x.p.pool l p=R:=⟨_,rfl⟩;rw[hR];have HR:=bx hR;have HK:=bx h;clear h hR
 go_enter Tryz.func114,Tryz.ntmps114
 go_wp2_with fail
 refine Y9b 2 256 HK.out (by decide) (by decide) ?_ ?_
 ·intro h w1 hc
  have HX:Bx (R=none):=bx (by rw[←HR.out];exact Y9u h);go_wp2;rw[HX.out];exact⟨rfl,rfl,hc⟩
 intro N p0 hN w1 hc1 hk1;have HN:=bx hN;have Zt:=bx hc1;have Ze:=bx hk1;have Mm:Bx (N≤256):=bx (Y7f hN);have Xh:Bx (R=bndK (repK (frmK x.p.pool) N) (fun l=>bndK endK fun _=>retK l) l p0):=bx (by rw[←HR.out];exact Y9w hN);clear hN hc1 hk1 HR;go_wp2_with fail
 go_loopw [3,4] (fun v nv wx=>∃(m j:Nat) (L:List FrE) (p1:Nat),j+m=N∧nv = .int .i64 (m:Int)∧Bx (L.length=j∧OwX frC 4 FrX wx w.heap.size 58 v L∧Krd wx gk gr gv lo l p1 false x b∧Ch w wx (OneR gr)∧RepK (frmK x.p.pool) l p0 N j (L.map FrE.p) p1)) (fun _ nv _=>(intOf nv).toNat)
 case atStart=>exact⟨N,0,[],p0,by omega,rfl,bx ⟨rfl,OwX.nil,Ze.out,Zt.out,RepK.start _ _ _ _⟩⟩
 case round=>
  obtain⟨m,j,L,p1,hj,rfl,Zs⟩:=hrel;obtain⟨A2,c2_,hv2,_,_⟩:=OwS.rd Zs.out.2.1.own;have HJ:=bx hj;have hm6:m≤256:=by have:=Mm.out;omega
  clear hj;by_cases hm:0<m
  ·have hmI:0<(m:Int):=by omega
   have hmd:decide (0<(m:Int))=true:=Z46 hmI
   have hstop:∀wq,frmK x.p.pool l p1=none→Ch wr wq (OneR gr)→KrP R (FrsP w.heap.size) gk gr gv lo l x b w (.panicked brkC) wq:=fun wq h c=>by
    have hX:R=none:=by rw[Xh.out];exact Y9u (Zs.out.2.2.2.2.stop (by have:=HJ.out;omega) h)
    rw[hX];exact⟨rfl,Zs.out.2.2.2.1.trans c (fun _ _ e=>e)⟩
   have Zw:=bx hstop;clear hstop;go_wp2_with fail
   refine Y9b 1 255 Zs.out.2.2.1 (by decide) (by decide) ?_ ?_
   ·intro h w2 hc
    go_wp2;exact⟨rfl,Zw.out _ (W7h h) hc⟩
   intro t p2 ht w2 hc2 hk2;have hst:=Kst.new (T:=58) #[.int .i64 (t:Int),.int .i64 0,.slice none 0 0,.slice none 0 0] hk2 hc2;have Sv:Bx (frmK x.p.pool l p1=frR x.p.pool t l p2):=bx (W5x ht);have ht5:t≤255:=Y7f ht;have HV:=bx hv2;clear ht hc2 hk2 hv2
   go_upto_block 2 with(fail)
   obtain⟨w3,hw3⟩:∃w3,w2.alloc (.cells #[.int .i64 (t:Int),.int .i64 0,.slice none 0 0,.slice none 0 0] 58)=w3:=⟨_,rfl⟩;obtain⟨g,hg⟩:∃g,w2.heap.size=g:=⟨_,rfl⟩;rw[hw3,hg]at hst;rw[hw3,hg];have Wc:=bx hst;clear hst hw3 hg
   go_cut [36] from 18 to 65 (fun _ wx=>∃(y:FrE) (p3:Nat),Bx (frmK x.p.pool l p1=some (y.p,p3)∧Kst 58 wr wx g gk gr gv lo l p3 x b #[.int .i64 y.tag,.int .i64 y.delta,y.l.v,y.s.v]∧FrX wx (fun k=>g≤k∧k<wx.heap.size) y))
   case first=>
    clear Zs Xh Ze Zt HN HK;have h12:=Wc.out.lt;have hgk:=Wc.out.kd.lt.1;by_cases ha:t<64
    ·have haI:(t:Int)<64:=by omega
     have had:decide ((t:Int)<64)=true:=Z46 haI;have hfz:=Wc.out.frz 1;have hcl:=Wc.out.cell (i:=1) rfl;go_wp2_with fail
     go_meet
     exact⟨⟨t,t,sq0,sq0⟩,p2,bx ⟨by rw[Sv.out,frR_a ha];rfl,Wc.out.set 1 _,⟨SqX.nil,SqX.nil⟩⟩⟩
    have haI:¬(t:Int)<64:=(by omega);have had:decide ((t:Int)<64)=false:=Z47 haI;by_cases hb:t<128
    ·have hbI:(t:Int)<128:=by omega
     have hbd:decide ((t:Int)<128)=true:=Z46 hbI;go_wp2_with fail
     refine Y7a 1 Wc.out.kd (by decide) ?_ ?_
     ·intro h w4 hc
      go_wp2;exact⟨rfl,Zw.out _ (by rw[Sv.out,W3o ha hb];exact Y9u h) (Wc.out.ch.trans hc (fun _ _ e=>e))⟩
     intro r p3 A4 n4 c4 hr w4 hc4 hk4 hO4;have Yr:=bx (Wc.out.step hc4 hk4);have Qi:=bx hO4;have Su:=bx hr;clear hr hc4 hk4 hO4;have hfz1:=Yr.out.frz 1;have hcl1:=Yr.out.cell (i:=1) rfl;have hfz3:=Yr.out.frz 3;have hcl3:=Yr.out.cell (i:=3) rfl;go_wp2_with fail
     go_meet
     exact⟨⟨t,(t:Int)-64,sq0,⟨A4,n4,c4,r⟩⟩,p3,bx ⟨by rw[Sv.out,W3o ha hb,Y9w Su.out];rfl,(Yr.out.set 1 _).set 3 _,⟨SqX.nil,SqX.of ((Qi.out.far h12).far h12) (fun k h1 h2=>⟨by omega,h2⟩)⟩⟩⟩
    have hbI:¬(t:Int)<128:=(by omega);have hbd:decide ((t:Int)<128)=false:=Z47 hbI;by_cases hc:t=255
    ·subst hc
     have Ws:Bx (frmK x.p.pool l p1=(bndK (numK 2 65535) fun d=>bndK (numK 2 64) fun n=>bndK (repK (vtK x.p.pool) n) fun l=>bndK (numK 2 64) fun m=>bndK (repK (vtK x.p.pool) m) fun s=>retK (⟨255,d,l,s⟩:Frm)) l p2):=bx (by rw[Sv.out,frR_c]);clear Sv;go_wp2_with fail
     refine Y9b 2 65535 Wc.out.kd (by decide) (by decide) ?_ ?_
     ·intro h w4 hc
      go_wp2;exact⟨rfl,Zw.out _ (by rw[Ws.out];exact Y9u h) (Wc.out.ch.trans hc (fun _ _ e=>e))⟩
     intro d p3 hr w4 hc4 hk4;have Yr:=bx (Wc.out.step hc4 hk4);have Cs:=bx (Ws.out.trans (Y9w hr));clear hr hc4 hk4 Ws Wc;have h12:=Yr.out.lt;have hgk:=Yr.out.kd.lt.1;have hfz1:=Yr.out.frz 1;have hcl1:=Yr.out.cell (i:=1) rfl;go_upto_region 19 with(fail)
     have Yt:=bx (Yr.out.set 1 (.int .i64 (d:Int)));generalize w4.setCell ⟨g,1,none⟩ (.int .i64 (d:Int))=w5 at Yt ⊢;clear Yr h12 hgk hfz1 hcl1;have h12:=Yt.out.lt;have hgk:=Yt.out.kd.lt.1;go_wp2_with fail
     refine Y9b 2 64 Yt.out.kd (by decide) (by decide) ?_ ?_
     ·intro h w6 hc
      go_wp2;exact⟨rfl,Zw.out _ (by rw[Cs.out];exact Y9u h) (Yt.out.ch.trans hc (fun _ _ e=>e))⟩
     intro n4 p4 hr w6 hc6 hk6;have Ys:=bx (Yt.out.step hc6 hk6);have O1:=bx (Cs.out.trans (Y9w hr));have hn4:=Y7f hr;clear hr hc6 hk6 Cs Yt;go_wp2_with fail
     refine Y7a n4 Ys.out.kd (by omega) ?_ ?_
     ·intro h w7 hc
      go_wp2;exact⟨rfl,Zw.out _ (by rw[O1.out];exact Y9u h) (Ys.out.ch.trans hc (fun _ _ e=>e))⟩
     intro r p5 A4 n5 c4 hr w7 hc7 hk7 hO7;have Yd:=bx (Ys.out.step hc7 hk7);have Qm:=bx (O1.out.trans (Y9w hr));have Qn:=bx hO7;have hg7:=Ys.out.lt;clear hr hc7 hk7 O1 Ys hO7 hn4 h12 hgk;have h12:=Yd.out.lt;have hgk:=Yd.out.kd.lt.1;have hfz1:=Yd.out.frz 2;have hcl1:=Yd.out.cell (i:=2) rfl;go_upto_region 20 with(fail)
     have Tv:=bx (Yd.out.set 2 (.slice A4 n5 c4));have Cr:=bx (Qn.out.far (i:=2) (u := .slice A4 n5 c4) hg7);generalize w7.setCell ⟨g,2,none⟩ (.slice A4 n5 c4)=w8 at Tv Cr ⊢;clear Yd Qn h12 hgk hfz1 hcl1;have h12:=Tv.out.lt;have hgk:=Tv.out.kd.lt.1;go_wp2_with fail
     refine Y9b 2 64 Tv.out.kd (by decide) (by decide) ?_ ?_
     ·intro h w9 hc
      go_wp2;exact⟨rfl,Zw.out _ (by rw[Qm.out];exact Y9u h) (Tv.out.ch.trans hc (fun _ _ e=>e))⟩
     intro n9 p9 hr w9 hc9 hk9;have Ym:=bx (Tv.out.step hc9 hk9);have St:=bx (Qm.out.trans (Y9w hr));have hn9:=Y7f hr;have Yb:=bx (Cr.out.one hc9 (by have:=Tv.out.lo;omega));clear hr hc9 hk9 Qm Tv Cr;go_wp2_with fail
     refine Y7a n9 Ym.out.kd (by omega) ?_ ?_
     ·intro h w10 hc
      go_wp2;exact⟨rfl,Zw.out _ (by rw[St.out];exact Y9u h) (Ym.out.ch.trans hc (fun _ _ e=>e))⟩
     intro r2 p10 A10 n10 c10 hr w10 hc10 hk10 hO10;have Ve:=bx (Ym.out.step hc10 hk10);have Pa:=bx (St.out.trans (Y9w hr));have N9:=bx hO10;have Kp:=bx (Yb.out.one hc10 (by have:=Ym.out.lo;omega));have hg10:=Ym.out.lt;clear hr hc10 hk10 St Ym Yb hO10 hn9 h12 hgk;have h12:=Ve.out.lt;have hgk:=Ve.out.kd.lt.1;have hfz1:=Ve.out.frz 3;have hcl1:=Ve.out.cell (i:=3) rfl;go_wp2_with fail
     go_meet
     exact⟨⟨255,d,⟨A4,n5,c4,r⟩,⟨A10,n10,c10,r2⟩⟩,p10,bx ⟨Pa.out,Ve.out.set 3 _,⟨SqX.of (Kp.out.far hg7) (fun k h1 h2=>⟨by omega,h2⟩),SqX.of (N9.out.far hg10) (fun k h1 h2=>⟨by omega,h2⟩)⟩⟩⟩
    have hcI:((t:Int)==255)=false:=by simp;omega
    by_cases hd:t<247
    ·have hdI:¬247≤(t:Int):=by omega
     have hdd:decide (247≤(t:Int))=false:=Z47 hdI;go_wp2_with fail
     refine Y9x _ (fun _=>?_) (fun e=>by cases e);go_wp2;exact⟨rfl,Zw.out _ (by rw[Sv.out,frR_e hb hd]) Wc.out.ch⟩
    have hdI:247≤(t:Int):=(by omega);have hdd:decide (247≤(t:Int))=true:=Z46 hdI;go_wp2_with fail
    refine Y9x _ (fun e=>by cases e) (fun _=>?_);go_wp2_with fail
    refine Y9b 2 65535 Wc.out.kd (by decide) (by decide) ?_ ?_
    ·intro h w4 hc
     go_wp2;exact⟨rfl,Zw.out _ (by rw[Sv.out];exact W3n (by omega) (by omega) h) (Wc.out.ch.trans hc (fun _ _ e=>e))⟩
    intro d p3 hr w4 hc4 hk4;have Yr:=bx (Wc.out.step hc4 hk4);have Su:=bx (frR_d (pool:=x.p.pool) (t:=t) (by omega) (by omega) hr);clear hr hc4 hk4;have hg4:=Yr.out.lt;have hgk4:=Yr.out.kd.lt.1;have hfz1:=Yr.out.frz 1;have hcl1:=Yr.out.cell (i:=1) rfl;go_upto_region 9 with(fail)
    have Yt:=bx (Yr.out.set 1 (.int .i64 (d:Int)));generalize w4.setCell ⟨g,1,none⟩ (.int .i64 (d:Int))=w5 at Yt ⊢;clear Yr hg4 hgk4 hfz1 hcl1 Wc h12 hgk;have h12:=Yt.out.lt;have hgk:=Yt.out.kd.lt.1;by_cases h47:t=247
    ·have h47I:((t:Int)==247)=true:=by simp;omega
     have h51I:¬251<(t:Int):=(by omega);have h51d:decide (251<(t:Int))=false:=Z47 h51I;have Qm:Bx (frmK x.p.pool l p1=bndK (repK (vtK x.p.pool) 1) (fun s=>retK ⟨t,d,[],s⟩) l p3):=bx (by rw[Sv.out,Su.out,if_pos h47]);clear h47 Su Sv;go_wp2_with fail
     refine Y7a 1 Yt.out.kd (by decide) ?_ ?_
     ·intro h w7 hc
      go_wp2;exact⟨rfl,Zw.out _ (by rw[Qm.out];exact Y9u h) (Yt.out.ch.trans hc (fun _ _ e=>e))⟩
     intro r p5 A4 n5 c4 hr w7 hc7 hk7 hO7;have Yd:=bx (Yt.out.step hc7 hk7);have Sy:=bx (Qm.out.trans (Y9w hr));have Qn:=bx hO7;have hg7:=h12;clear hr hc7 hk7 Qm Yt hO7 h12 hgk;have h12:=Yd.out.lt;have hgk:=Yd.out.kd.lt.1;have hfz1:=Yd.out.frz 3;have hcl1:=Yd.out.cell (i:=3) rfl;go_wp2_with fail
     go_meet
     exact⟨⟨t,d,sq0,⟨A4,n5,c4,r⟩⟩,p5,bx ⟨Sy.out,Yd.out.set 3 _,⟨SqX.nil,SqX.of (Qn.out.far hg7) (fun k h1 h2=>⟨by omega,h2⟩)⟩⟩⟩
    ·have h47I:((t:Int)==247)=false:=by simp;omega
     by_cases h51:251<t
     ·have h51I:251<(t:Int):=by omega
      have h51d:decide (251<(t:Int))=true:=Z46 h51I;obtain⟨n4,hn4⟩:∃n4,t-251=n4:=⟨_,rfl⟩;have hn4I:(t:Int)-251=(n4:Int):=(by omega);have hn49:n4≤10:=(by omega);have Qm:Bx (frmK x.p.pool l p1=bndK (repK (vtK x.p.pool) n4) (fun s=>retK ⟨t,d,s,[]⟩) l p3):=bx (by rw[Sv.out,Su.out,if_neg h47,if_pos h51,hn4]);clear h47 Su Sv hn4;go_wp2_with fail
      refine Y7a n4 Yt.out.kd (by omega) ?_ ?_
      ·intro h w7 hc
       go_wp2;exact⟨rfl,Zw.out _ (by rw[Qm.out];exact Y9u h) (Yt.out.ch.trans hc (fun _ _ e=>e))⟩
      intro r p5 A4 n5 c4 hr w7 hc7 hk7 hO7;have Yd:=bx (Yt.out.step hc7 hk7);have Sy:=bx (Qm.out.trans (Y9w hr));have Qn:=bx hO7;have hg7:=h12;clear hr hc7 hk7 Qm Yt hO7 h12 hgk;have h12:=Yd.out.lt;have hgk:=Yd.out.kd.lt.1;have hfz1:=Yd.out.frz 2;have hcl1:=Yd.out.cell (i:=2) rfl;go_wp2_with fail
      go_meet
      exact⟨⟨t,d,⟨A4,n5,c4,r⟩,sq0⟩,p5,bx ⟨Sy.out,Yd.out.set 2 _,⟨SqX.of (Qn.out.far hg7) (fun k h1 h2=>⟨by omega,h2⟩),SqX.nil⟩⟩⟩
     ·have h51I:¬251<(t:Int):=by omega
      have h51d:decide (251<(t:Int))=false:=Z47 h51I;have Qm:Bx (frmK x.p.pool l p1=some (⟨t,d,[],[]⟩,p3)):=bx (by rw[Sv.out,Su.out,if_neg h47,if_neg h51];rfl);go_wp2_with fail
      go_meet
      exact⟨⟨t,d,sq0,sq0⟩,p3,bx ⟨Qm.out,Yt.out,⟨SqX.nil,SqX.nil⟩⟩⟩
   case rest=>
    obtain⟨y,p3,hC⟩:=hcut;obtain rfl:=HV.out;have Ym:=bx hC.out.2.1;have HX:=bx (Zs.out.2.2.2.2.next (by have:=HJ.out;omega) hC.out.1);have Qi:=bx (OwX.one (P:=FrX) frStep Zs.out.2.1 hC.out.2.1.ch HK.out.lt.2.1);have Nf:=bx Zs.out.1;have Ld:Bx ((L.length+[y].length)*64≤140737488355328):=bx (by simp only[Z13,Z20];have:=Zs.out.1;have:=HJ.out;have:=Mm.out;omega);have Xz:=bx (Zs.out.2.2.2.1.trans hC.out.2.1.ch (fun _ _ e=>e));have S9:Bx (w.heap.size≤g∧∀q,(Value.slice A2 L.length c2_).ownBlock=some q→q<g):=bx (by have h1:=hC.out.2.1.lo;have h2:=Zs.out.2.2.2.1.size;exact⟨by omega,fun q e=>by have:=(Zs.out.2.1.own.blk e).2;omega⟩);have c0:=Ym.out.cell (i:=0) rfl;have c1:=Ym.out.cell (i:=1) rfl;have c2:=Ym.out.cell (i:=2) rfl;have c3:=Ym.out.cell (i:=3) rfl;have Ge:Bx (FrX wc (Bff w.heap.size wc (.slice A2 L.length c2_)) y):=bx (hC.out.2.2.step (fun _ _=>rfl) (fun k hk=>⟨by have:=S9.out.1;have:=hk.1;omega,hk.2,fun e=>by have:=S9.out.2 k e;have:=hk.1;omega⟩));have Zc:=bx (RS.new (fC:=frC) wc y #[.int .i64 y.tag,.int .i64 y.delta,y.l.v,y.s.v] rfl 58 (0,0));have hz:w.heap.size≤wc.heap.size:=Xz.out.size;clear hC Zs HV Sv Wc;go_step;go_wp2_with (at_builtin;refine Y9v _ frCels rfl (.tmp 66) (.tmp 68) rfl frTy (by decide) w.heap.size (.slice A2 L.length c2_) L rfl (OwS.alloc Qi.out.own _) (wc.heap.size+1) (some ⟨wc.heap.size,0,none⟩) 1 1 [y] rfl rfl Zc.out Ld.out (Y4w hz _) ?_;intro V7 w7 hO7 hg7 hv7 hb7;have Qn:=bx hO7;have HG7:=bx hg7;have HV7:=bx hv7)
    go_roundw
    case rel=>have hba:=Y9z (Below.refl wc.heap.size wc) (Z00 _) (.cells #[.int .i64 y.tag,.int .i64 y.delta,y.l.v,y.s.v] 58);have hcl:Ch wc w7 (fun k=>w.heap.size≤k):=Ch.of_low ((hba.mono hz).trans hb7);have hlt:=HK.out.lt;have hord:=HK.out.ord;have hox:=OwX.app (P:=FrX) frStep (OwX.step (P:=FrX) frStep Qi.out hba) (N:=[y]) (fun z hz=>by have e:z=y:=(by simpa using hz);subst e;exact Ge.out.step (fun k hk=>hba.block k hk.2.1) (fun k hk=>⟨hk.1,Z07 hk.2.1 hba.size,hk.2.2⟩)) Qn.out HG7.out HV7.out;exact⟨m-1,j+1,L++[y],p3,by have:=HJ.out;omega,by go_num,bx ⟨by rw[Z08,Nf.out];rfl,hox,Ym.out.kd.far hcl (fun k hk e=>by have e:w.heap.size≤k:=e;omega),Xz.out.trans hcl (fun k hk e=>by have e:w.heap.size≤k:=e;omega),by rw[Z30];exact HX.out⟩⟩
    case measure=>simp [intOf];omega
  ·have hmI:¬0<(m:Int):=by omega
   have hmd:decide (0<(m:Int))=false:=Z47 hmI;have HE:Bx (j=N):=bx (by have:=HJ.out;omega);have hO9:=bx (show OwX frC 4 FrX wr w.heap.size 58 (.slice A2 L.length c2_) L from hv2 ▸ Zs.out.2.1);have hX:=Zs.out.2.2.2.2;rw[HE.out]at hX;have Ss:Bx (R=bndK endK (fun _=>retK (L.map FrE.p)) l p1):=bx (Xh.out.trans (Y9w hX.done));have Vy:=bx Zs.out.2.2.1;have Xl:=bx Zs.out.2.2.2.1;clear hX Zs Xh;go_wp2_with fail
   refine X2r Vy.out ?_ ?_
   ·intro h w8 hb8
    have Pn:Bx (R=none):=bx (by rw[Ss.out];exact Y9u h);go_wp2;rw[Pn.out];exact⟨rfl,rfl,Xl.out.trans (Ch.of_below (S:=OneR gr) hb8) (fun _ _ e=>e)⟩
   ·intro h w8 hb8
    have Pn:Bx (R=some (L.map FrE.p,p1)):=bx (by rw[Ss.out,Y9w h];rfl);obtain rfl:=hv2;go_wp2;go_ret;rw[Pn.out];exact⟨⟨⟨_,L,rfl,OwX.step (P:=FrX) frStep hO9.out hb8,rfl⟩,Vy.out.below hb8⟩,Xl.out.trans (Ch.of_below (S:=OneR gr) hb8) (fun _ _ e=>e)⟩
theorem X7y (pool:List Cst) (b:List UInt8):frmsK pool b=(frmsR pool b 0).map (·.1):=rfl
theorem X6v {R:Ending→World→Prop} {gk gr gv lo:Nat} {l:List UInt8} {x:ImE} {b:Bool} {w:World} (h:Krd w gk gr gv lo l 0 false x b)
  (hno:frmsK x.p.pool l=none→∀w',Ch w w' (OneR gr)→R (.panicked brkC) w')
  (hyes:∀L A n c,frmsK x.p.pool l=some (L.map FrE.p)→∀w',Ch w w' (OneR gr)→OwX frC 4 FrX w' w.heap.size 58 (.slice A n c) L→R (.returned (.slice A n c)) w') :
  Calls Tryz.prog 114 #[.pointer (some ⟨gk,0,none⟩)] w R:=by
 refine(X9p gk gr gv lo l 0 x b w h).mono ?_
 intro e w' hp;obtain⟨hp,hc⟩:=hp;cases ho:frmsR x.p.pool l 0 with
 | none=>rw[ho]at hp;have hp:e = .panicked brkC:=hp;subst hp;exact hno (by rw[X7y,ho];rfl) _ hc
 | some r=>obtain⟨v,p'⟩:=r;rw[ho]at hp;obtain⟨⟨u,L,rfl,hO,hL⟩,hk⟩:=hp;obtain⟨A,c,rfl,_,_⟩:=hO.own.rd;exact hyes L A _ c (by rw[X7y,ho,←hL];rfl) _ hc hO
open Go.RowKit
set_option linter.unusedSimpArgs false
def frKs (f:FrE):Bool:=decide (f.l.n≤64∧f.s.n≤64)
def mtKs (m:MtE):Bool:=decide (m.code.n≤4096∧m.hs.n≤64∧m.fs.n≤256)&&m.fs.l.all frKs
theorem X8l {α:Type} {p q:α→Bool} {l:List α} (h:∀x∈l,p x=q x):l.all p=l.all q:=by
 induction l with
 | nil=>rfl
 | cons a r ih=>rw[List.all_cons,List.all_cons,h a (by simp),ih (fun x hx=>h x (by simp [hx]))]
theorem W7g {w:World} {X:Nat→Prop} {x:ClE} (h:ClX w X x):fitsK x.p x.pool.l=(decide (x.pool.n≤1024∧x.ifs.n≤64∧x.fls.n≤64∧x.mts.n≤64)&&x.mts.l.all mtKs):=by
 unfold fitsK;have e1:x.p.ifaces=x.ifs.l:=rfl;have e2:x.p.fields=x.fls.l:=rfl;have e3:x.p.methods=x.mts.l.map MtE.p:=rfl;rw[e1,e2,e3,Z22,h.ifs.1,h.fls.1,h.mts.1,h.pool.1,List.all_map];refine congrArg _ (X8l fun m hm=>?_);have hm:=h.mt m hm;show (decide (m.code.l.length≤4096∧m.hs.l.length≤64∧(m.fs.l.map FrE.p).length≤256)&&(m.fs.l.map FrE.p).all _)=_;rw[Z22,hm.code.1,hm.hs.1,hm.fs.1,List.all_map];refine congrArg _ (X8l fun f hf=>?_);have hf:=hm.fr f hf;show decide (f.l.l.length≤64∧f.s.l.length≤64)=_;rw[hf.l.1,hf.s.1]
 rfl
theorem X9l {α:Type} {p:α→Bool} {l:List α} {j:Nat} {x:α} (h:l[j]? = some x) (hp:p x=false):l.all p=false:=by
 cases e:l.all p with
 | false=>rfl
 | true=>rw[Z32]at e;rw[e x (Z15 h)]at hp;cases hp
theorem Y1h {α:Type} {p:α→Bool} {l:List α} {j:Nat} {x:α} (h:l[j]? = some x) (hj:(l.take j).all p=true) (hp:p x=true):(l.take (j+1)).all p=true:=by
 rw[Z39,h,List.all_append,hj];simp [hp]
theorem X1c (x:ClE) (w:World) (hx:ClX w (fun k=>k<w.heap.size) x) :
  Calls Tryz.prog 20 #[.agg (clA x)] w fun e w'=>e = .returned (.bool (fitsK x.p x.pool.l))∧Below w.heap.size w w':=by
 have HX:=bx hx;obtain⟨q,hq⟩:∃q,fitsK x.p x.pool.l=q:=⟨_,rfl⟩;rw[hq];have HQ:Bx (q=(decide (x.pool.n≤1024∧x.ifs.n≤64∧x.fls.n≤64∧x.mts.n≤64)&&x.mts.l.all mtKs)):=bx (by rw[←hq];exact W7g hx);clear hx hq;obtain⟨ac,nm,su,⟨iA,i_n,ic,il⟩,⟨fA,fn,fc,fl⟩,⟨mA,mn,mc,ml⟩,⟨pA,pn,pc,pl⟩⟩:=x;unfold clA strQ Sq.v;dsimp only at HQ ⊢;have hk:=Bk.new w 27 #[.int .i64 ac,.string ⟨nm.toArray⟩,.string ⟨su.toArray⟩,.slice iA i_n ic,.slice fA fn fc,.slice mA mn mc,.slice pA pn pc];have hb:=Y9z (Below.refl w.heap.size w) (Z00 _) (.cells #[.int .i64 ac,.string ⟨nm.toArray⟩,.string ⟨su.toArray⟩,.slice iA i_n ic,.slice fA fn fc,.slice mA mn mc,.slice pA pn pc] 27);obtain⟨g,hg⟩:∃g,w.heap.size=g:=⟨_,rfl⟩;rw[hg]at hk
 go_enter Tryz.func20,Tryz.ntmps20
 go_upto_region 1 with(fail)
 (try rw[hg])
 generalize w.alloc (.cells #[.int .i64 ac,.string ⟨nm.toArray⟩,.string ⟨su.toArray⟩,.slice iA i_n ic,.slice fA fn fc,.slice mA mn mc,.slice pA pn pc] 27)=w1 at hk hb ⊢;have HK:=bx hk;have HB:=bx hb;have c3:w1.cell? ⟨g,3,none⟩=some (.slice iA i_n ic):=(hk.cell 3).trans rfl;have c4:w1.cell? ⟨g,4,none⟩=some (.slice fA fn fc):=(hk.cell 4).trans rfl;have c5:w1.cell? ⟨g,5,none⟩=some (.slice mA mn mc):=(hk.cell 5).trans rfl;have c6:w1.cell? ⟨g,6,none⟩=some (.slice pA pn pc):=(hk.cell 6).trans rfl;clear hk hb hg;by_cases hp:pn≤1024
 ·have hpI:¬(1024:Int)<(pn:Int):=by omega
  go_upto_if 23 with(fail)
  generalize hmx:(if (if i_n<fn then (fn:Int) else (i_n:Int))<(mn:Int) then (mn:Int) else if i_n<fn then (fn:Int) else (i_n:Int))=mx
  have hm9:(64:Int)<mx↔¬(i_n≤64∧fn≤64∧mn≤64):=by
   rw[←hmx]
   split <;> split <;> omega
  have Pm:=bx hm9;clear hmx hm9;by_cases h9:(64:Int)<mx
  ·have hq:q=false:=by rw[HQ.out,Z47 (fun h2=>Pm.out.1 h9 h2.2),Bool.false_and]
   subst hq;go_wp2;go_ret;exact⟨rfl,HB.out⟩
  ·have D0:Bx (i_n≤64∧fn≤64∧mn≤64):=bx (Decidable.byContradiction fun h=>h9 (Pm.out.2 h))
   have Xi:Bx (q=ml.all mtKs):=bx (by rw[HQ.out,Z46 ⟨hp,D0.out⟩,Z23]);have Bo:Bx (ml.length=mn):=bx HX.out.mts.1;have hmn:=D0.out.2.2;clear Pm HQ c3 c4 c6 hp hpI;go_wp2;clear c5
   go_loopw [27] (fun iv wx=>∃(j:Nat),j≤mn∧iv = .int .i64 (j:Int)∧Bx ((ml.take j).all mtKs=true)∧Bx (Below w.heap.size w wx)) (fun iv _=>mn-(intOf iv).toNat)
   case atStart=>exact⟨0,by omega,rfl,bx rfl,HB⟩
   case round=>
    obtain⟨j,hj,rfl,HA,HW⟩:=hrel;by_cases hjn:j<mn
    ·have hjI:(j:Int)<(mn:Int):=by omega
     obtain⟨ad,m,rfl,hlt,HT,q0,q1⟩:=((HX.out.mts.rs (fun _ h=>h)).below HW.out (Z00 _)).at_ mtCels (k:=j) (by rw[Bo.out];exact hjn);have Vf:=bx HT.out;have Xc:=bx (HX.out.mt m (Z15 Vf.out));obtain⟨mac,mnm,mds,mth,mst,mlo,⟨cA,cn,cc,cl⟩,⟨hA,hn,hc,hs⟩,⟨rA,rn,rc,rl⟩⟩:=m;have p0:=q0 _ rfl;have p1:=q1 0 _ rfl;have p2:=q1 1 _ rfl;have p3:=q1 2 _ rfl;have p4:=q1 3 _ rfl;have p5:=q1 4 _ rfl;have p6:=q1 5 _ rfl;have p7:=q1 6 _ rfl;have p8:=q1 7 _ rfl;simp only[Z21,Nat.reduceAdd]at p1 p2 p3 p4 p5 p6 p7 p8;unfold strQ at p1 p2;unfold slV at p6;unfold Sq.v at p7 p8;dsimp only at p6 p7 p8;clear q0 q1 HT hlt;obtain⟨C,hCs⟩:∃C,wr.heap.size=C:=⟨_,rfl⟩;have Yz:=bx (Bk.newAt wr 55 #[.int .i64 mac,.string ⟨mnm.toArray⟩,.string ⟨mds.toArray⟩,.bool mth,.int .i64 mst,.int .i64 mlo,.slice cA cn cc,.slice hA hn hc,.slice rA rn rc] hCs);have Za:=bx (Y9z HW.out (Z00 _) (.cells #[.int .i64 mac,.string ⟨mnm.toArray⟩,.string ⟨mds.toArray⟩,.bool mth,.int .i64 mst,.int .i64 mlo,.slice cA cn cc,.slice hA hn hc,.slice rA rn rc] 55));have Xk:=bx hCs;clear hCs;go_upto_region 6 with(fail)
     rw[Xk.out];generalize wr.alloc (.cells #[.int .i64 mac,.string ⟨mnm.toArray⟩,.string ⟨mds.toArray⟩,.bool mth,.int .i64 mst,.int .i64 mlo,.slice cA cn cc,.slice hA hn hc,.slice rA rn rc] 55)=wb at Yz Za ⊢;have b6:wb.cell? ⟨C,6,none⟩=some (.slice cA cn cc):=(Yz.out.cell 6).trans rfl;have b7:wb.cell? ⟨C,7,none⟩=some (.slice hA hn hc):=(Yz.out.cell 7).trans rfl;have b8:wb.cell? ⟨C,8,none⟩=some (.slice rA rn rc):=(Yz.out.cell 8).trans rfl;clear p0 p1 p2 p3 p4 p5 p6 p7 p8 Xk HW;have hno:¬(cn≤4096∧hn≤64∧rn≤256)→q=false:=fun h=>by rw[Xi.out];exact X9l Vf.out (by unfold mtKs;dsimp only;rw[Z47 h,Bool.false_and])
     have Yi:=bx hno;clear hno;by_cases g1:cn≤4096
     ·have g1I:¬(4096:Int)<(cn:Int):=by omega
      by_cases g2:hn≤64
      ·have g2I:¬(64:Int)<(hn:Int):=by omega
       by_cases g3:rn≤256
       ·have g3I:¬(256:Int)<(rn:Int):=by omega
        have Ta:Bx (cn≤4096∧hn≤64∧rn≤256):=bx ⟨g1,g2,g3⟩;have Cu:Bx (rl.length=rn):=bx Xc.out.fs.1;clear g1 g2 g3;go_wp2;have hrn:=Ta.out.2.2;clear b6 b7 b8 g1I g2I g3I;obtain⟨wm,rfl⟩:∃wm,wm=wr:=⟨_,rfl⟩
        go_loopw [50] (fun iv wx=>∃(i:Nat),i≤rn∧iv = .int .i64 (i:Int)∧Bx ((rl.take i).all frKs=true)∧Bx (Below w.heap.size w wx)) (fun iv _=>rn-(intOf iv).toNat)
        case atStart=>exact⟨0,by omega,rfl,bx rfl,Za⟩
        case round=>
         obtain⟨i,hi,rfl,N8,S8⟩:=hrel;by_cases hin:i<rn
         ·have hiI:(i:Int)<(rn:Int):=by omega
          obtain⟨ad2,f,rfl,hlt,HT,q0,q1⟩:=((Xc.out.fs.rs (fun _ h=>h)).below S8.out (Z00 _)).at_ frCels (k:=i) (by rw[Cu.out];exact hin);have C9:=bx HT.out;obtain⟨tg,dl,⟨lA,ln,lc,ll⟩,⟨sA,sn,sc,sl⟩⟩:=f;have p0:=q0 _ rfl;have p1:=q1 0 _ rfl;have p2:=q1 1 _ rfl;have p3:=q1 2 _ rfl;simp only[Z21,Nat.reduceAdd]at p1 p2 p3;unfold Sq.v at p2 p3;dsimp only at p2 p3;clear q0 q1 HT hlt;obtain⟨C2,hCs⟩:∃C2,wr.heap.size=C2:=⟨_,rfl⟩;have Nz:=bx (Bk.newAt wr 58 #[.int .i64 tg,.int .i64 dl,.slice lA ln lc,.slice sA sn sc] hCs);have S7:=bx (Y9z S8.out (Z00 _) (.cells #[.int .i64 tg,.int .i64 dl,.slice lA ln lc,.slice sA sn sc] 58));have Xk:=bx hCs;clear hCs;go_upto_region 11 with(fail)
          rw[Xk.out];generalize wr.alloc (.cells #[.int .i64 tg,.int .i64 dl,.slice lA ln lc,.slice sA sn sc] 58)=wf at Nz S7 ⊢;have b2:wf.cell? ⟨C2,2,none⟩=some (.slice lA ln lc):=(Nz.out.cell 2).trans rfl;have b3:wf.cell? ⟨C2,3,none⟩=some (.slice sA sn sc):=(Nz.out.cell 3).trans rfl;clear p0 p1 p2 p3 Xk S8;have hno:¬(ln≤64∧sn≤64)→q=false:=fun h=>by rw[Xi.out];exact X9l Vf.out (by unfold mtKs;dsimp only;rw[X9l C9.out (by unfold frKs;dsimp only;exact Z47 h),Bool.and_false])
          have Bn:=bx hno;clear hno;by_cases g1:ln≤64
          ·have g1I:¬(64:Int)<(ln:Int):=by omega
           by_cases g2:sn≤64
           ·have g2I:¬(64:Int)<(sn:Int):=by omega
            have N1:Bx ((rl.take (i+1)).all frKs=true):=bx (Y1h C9.out N8.out (by unfold frKs;dsimp only;exact Z46 ⟨g1,g2⟩));clear g1 g2;go_wp2;go_roundw
            case rel=>exact⟨i+1,by omega,by go_num,N1,S7⟩
            case measure=>simp [intOf];omega
           ·have g2I:(64:Int)<(sn:Int):=by omega
            have hq:=Bn.out (fun h=>g2 h.2);subst hq;clear g1 g2;go_wp2;go_ret;exact⟨rfl,S7.out⟩
          ·have g1I:(64:Int)<(ln:Int):=by omega
           have hq:=Bn.out (fun h=>g1 h.1);subst hq;clear g1;go_wp2;go_ret;exact⟨rfl,S7.out⟩
         ·obtain rfl:i=rn:=by omega
          have hiI:¬(i:Int)<(i:Int):=(by omega);have N1:Bx ((ml.take (j+1)).all mtKs=true):=bx (Y1h Vf.out HA.out (by have h:=N8.out;rw[Z12 (by rw[Cu.out];exact Z00 _)]at h;unfold mtKs;dsimp only;rw[Z46 Ta.out,h,Bool.and_true]));clear N8;go_wp2;go_roundw
          case rel=>exact⟨j+1,by omega,by go_num,N1,S8⟩
          case measure=>simp [intOf];omega
       ·have g3I:(256:Int)<(rn:Int):=by omega
        have hq:=Yi.out (fun h=>g3 h.2.2);subst hq;clear g1 g2 g3;go_wp2;go_ret;exact⟨rfl,Za.out⟩
      ·have g2I:(64:Int)<(hn:Int):=by omega
       have hq:=Yi.out (fun h=>g2 h.2.1);subst hq;clear g1 g2;go_wp2;go_ret;exact⟨rfl,Za.out⟩
     ·have g1I:(4096:Int)<(cn:Int):=by omega
      have hq:=Yi.out (fun h=>g1 h.1);subst hq;clear g1;go_wp2;go_ret;exact⟨rfl,Za.out⟩
    ·obtain rfl:j=mn:=by omega
     have hjI:¬(j:Int)<(j:Int):=(by omega);have hq:q=true:=by rw[Xi.out];have:=HA.out;rwa [Z12 (by rw[Bo.out];exact Z00 _)]at this
     subst hq;go_wp2;go_ret;exact⟨rfl,HW.out⟩
 ·have hpI:(1024:Int)<(pn:Int):=by omega
  have hq:q=false:=(by rw[HQ.out,Z47 (fun h=>hp h.1),Bool.false_and]);subst hq;go_wp2;go_ret;exact⟨rfl,HB.out⟩
open Go.RowKit
theorem X1y {α β:Type} {f:α→β} {L M:List α} {k:Nat} {x y:α} (hx:L[k]? = some x) (hy:M[k]? = some y) (h:f x≠f y):L.map f≠M.map f:=fun e=>by
 have h1:=congrArg (fun l=>l[k]?) e;simp only[List.getElem?_map,hx,hy,Option.map_some]at h1;injection h1 with h1
 exact h h1
theorem X5f {α β:Type} {f:α→β} {L M:List α} {k:Nat} {x y:α} (h:(L.take k).map f=(M.take k).map f) (hx:L[k]? = some x) (hy:M[k]? = some y) (hd:f x=f y):(L.take (k+1)).map f=(M.take (k+1)).map f:=by
 rw[Z39,Z39,hx,hy,Z30,Z30,h];show _++[f x]=_++[f y];rw[hd]
def idC (c:Cst):Cst:=c
theorem X5k (L:List Cst):L.map idC=L:=by
 have:idC=id:=rfl
 rw[this,List.map_id]
theorem W5i {x y:Cst} (h0:x.tag=y.tag) (h1:x.a=y.a) (h2:x.b=y.b) (h3:x.num=y.num) (h4:x.text=y.text):x=y:=by obtain⟨t,a,b,n,s⟩:=x;obtain⟨t',a',b',n',s'⟩:=y;simp at h0 h1 h2 h3 h4;subst h0 h1 h2 h3 h4;rfl
theorem Y1b (A1 A2:Option Addr) (n1 c1 n2 c2:Nat) (L1 L2:List Cst) (w:World) (h1:L1.length=n1) (h2:L2.length=n2) (hb1:(n1:Int)≤140737488355328) (_hb2:(n2:Int)≤140737488355328)
  (r1:RS cstC w w.heap.size A1 L1) (r2:RS cstC w w.heap.size A2 L2) :
  Calls Tryz.prog 11 #[.slice A1 n1 c1,.slice A2 n2 c2] w fun e w'=>e = .returned (.bool (decide (L1.map idC=L2.map idC)))∧∃q,w'=w.drewN q:=by
 have Xb:=bx h1;have Xu:=bx h2;have Xh:=bx r1;have Xd:=bx r2;clear h1 h2 r1 r2;by_cases he:n1=n2
 ·have he1:((n1:Int) != (n2:Int))=false:=by simp [he]
  have HE:=bx he;obtain⟨R,hR⟩:∃R,decide (L1.map idC=L2.map idC)=R:=⟨_,rfl⟩;rw[hR];have HR:=bx hR;have Xr:Bx ((L1.take 0).map idC=(L2.take 0).map idC):=bx rfl;have Wr:Bx (∃m,w=w.drewN m):=bx ⟨0,rfl⟩;clear he hR
  go_enter Tryz.func11,Tryz.ntmps11
  go_wp2
  go_loopw [5] (fun i wr=>∃k:Nat,k≤n1∧i = .int .i64 (k:Int)∧Bx ((L1.take k).map idC=(L2.take k).map idC)∧Bx (∃m,wr=w.drewN m)) (fun i _=>n1-(intOf i).toNat)
  case atStart=>exact⟨0,by omega,rfl,Xr,Wr⟩
  case round=>
   clear Xr Wr;obtain⟨k,hk,rfl,HQ,HW⟩:=hrel;by_cases hk0:k<n1
   ·have hk1:k<n2:=by have:=HE.out;omega
    have hkI:(k:Int)<(n1:Int):=(by omega);have hkI2:(k:Int)<(n2:Int):=(by omega);have hRR:RS cstC wr wr.heap.size A1 L1∧RS cstC wr wr.heap.size A2 L2:=by obtain⟨m,e⟩:=HW.out;rw[e];exact⟨Xh.out.drewN m,Xd.out.drewN m⟩
    obtain⟨ad,x,rfl,_,HX,p0,p1,p2,p3,p4⟩:=Y6l hRR.1 (k:=k) (by rw[Xb.out];exact hk0);obtain⟨bd,y,rfl,_,HY,q0,q1,q2,q3,q4⟩:=Y6l hRR.2 (k:=k) (by rw[Xu.out];exact hk1);clear hRR;by_cases he:x=y
    ·have Xi:=bx (X5f HQ.out HX.out HY.out (congrArg idC he))
     subst he;clear HQ;go_wp2;go_quiet (fail)
     have Yx:Bx (∀nq,∃m,wr.drewN nq=w.drewN m):=bx (fun nq=>by obtain⟨m,e⟩:=HW.out;rw[e];exact⟨m+nq,World.drewN_drewN _ _ _⟩);go_wp2;go_roundw
     case rel=>exact⟨k+1,by omega,by go_num,Xi,bx (Yx.out _)⟩
     case measure=>simp [intOf];omega
    ·have Xe:=bx he
     have HN:Bx (R=false):=bx (by rw[←HR.out];exact Z47 (X1y HX.out HY.out he));clear HQ he;by_cases etag:x.tag=y.tag
     ·rw[etag]at p0
      by_cases ea:x.a=y.a
      ·rw[ea]at p1
       by_cases eb:x.b=y.b
       ·rw[eb]at p2
        by_cases enum:x.num=y.num
        ·rw[enum]at p3
         have S6:=bx (show x.tag=y.tag∧x.a=y.a∧x.b=y.b∧x.num=y.num from⟨etag,ea,eb,enum⟩);clear etag ea eb enum;have ht:¬x.text=y.text:=fun e=>Xe.out (W5i S6.out.1 S6.out.2.1 S6.out.2.2.1 S6.out.2.2.2 e);go_wp2;go_quiet (fail)
         have Yx:Bx (∀nq,∃m,wr.drewN nq=w.drewN m):=bx (fun nq=>by obtain⟨m,e⟩:=HW.out;rw[e];exact⟨m+nq,World.drewN_drewN _ _ _⟩);go_wp2;go_ret;exact⟨by rw[HN.out];rfl,Yx.out _⟩
        ·have en:=enum
         go_wp2;go_quiet (fail)
         have Yx:Bx (∀nq,∃m,wr.drewN nq=w.drewN m):=bx (fun nq=>by obtain⟨m,e⟩:=HW.out;rw[e];exact⟨m+nq,World.drewN_drewN _ _ _⟩);go_wp2;go_ret;exact⟨by rw[HN.out];rfl,Yx.out _⟩
       ·have en:=eb
        go_wp2;go_quiet (fail)
        have Yx:Bx (∀nq,∃m,wr.drewN nq=w.drewN m):=bx (fun nq=>by obtain⟨m,e⟩:=HW.out;rw[e];exact⟨m+nq,World.drewN_drewN _ _ _⟩);go_wp2;go_ret;exact⟨by rw[HN.out];rfl,Yx.out _⟩
      ·have en:=ea
       go_wp2;go_quiet (fail)
       have Yx:Bx (∀nq,∃m,wr.drewN nq=w.drewN m):=bx (fun nq=>by obtain⟨m,e⟩:=HW.out;rw[e];exact⟨m+nq,World.drewN_drewN _ _ _⟩);go_wp2;go_ret;exact⟨by rw[HN.out];rfl,Yx.out _⟩
     ·have en:=etag
      go_wp2;go_quiet (fail)
      have Yx:Bx (∀nq,∃m,wr.drewN nq=w.drewN m):=bx (fun nq=>by obtain⟨m,e⟩:=HW.out;rw[e];exact⟨m+nq,World.drewN_drewN _ _ _⟩);go_wp2;go_ret;exact⟨by rw[HN.out];rfl,Yx.out _⟩
   ·obtain rfl:n1=k:=by omega
    have hkI:¬(n1:Int)<(n1:Int):=(by omega);have HN:Bx (R=true):=bx (by have h9:=HQ.out;rw[Z12 (by rw[Xb.out];exact Z00 _),Z12 (by rw[Xu.out,←HE.out];exact Z00 _)]at h9;rw[←HR.out];exact Z46 h9);clear HQ;go_wp2;go_ret;exact⟨by rw[HN.out];rfl,HW.out⟩
 ·have he1:((n1:Int) != (n2:Int))=true:=by simp;omega
  have hne:decide (L1.map idC=L2.map idC)=false:=Z47 (fun e=>he (by have:=congrArg List.length e;rw[Z22,Z22,Xb.out,Xu.out]at this;exact this));rw[hne];clear he hne
  go_enter Tryz.func11,Tryz.ntmps11
  go_wp2;go_ret;exact⟨rfl,0,rfl⟩
theorem Y6t (A1 A2:Option Addr) (n1 c1 n2 c2:Nat) (L1 L2:List Cst) (w:World) (h1:L1.length=n1) (h2:L2.length=n2) (hb1:(n1:Int)≤140737488355328) (hb2:(n2:Int)≤140737488355328)
  (r1:RS cstC w w.heap.size A1 L1) (r2:RS cstC w w.heap.size A2 L2) :
  Calls Tryz.prog 11 #[.slice A1 n1 c1,.slice A2 n2 c2] w fun e w'=>e = .returned (.bool (decide (L1=L2)))∧∃q,w'=w.drewN q:=by
 have h:=Y1b A1 A2 n1 c1 n2 c2 L1 L2 w h1 h2 hb1 hb2 r1 r2;rw[X5k,X5k]at h;exact h
open Go.RowKit
structure SkR (w wx:World) (B g:Nat) (v:Value) (l:List UInt8):Prop where
 rws:Rws 95 5 wx B g v l
 bel:Below B w wx
 g0:B≤g
 vg:v.ownBlock≠some g
 z:B≤wx.heap.size
theorem SkR.low {w wx:World} {B g:Nat} {v:Value} {l:List UInt8} (h:SkR w wx B g v l):∀k,Fpt g v k→B≤k∧k<wx.heap.size:=fun k hk=>by
 rcases hk with e | e
 ·rw[e];exact⟨h.g0,h.rws.1.lt⟩
 ·exact World.ownsRow.lt h.rws.2 k e
theorem SkR.below {w wx w':World} {B g:Nat} {v:Value} {l:List UInt8} (h:SkR w wx B g v l) (hb:Below wx.heap.size wx w'):SkR w w' B g v l:=
 ⟨h.rws.below hb,h.bel.trans (hb.mono h.z),h.g0,h.vg,Z09 h.z hb.size⟩
theorem SkR.cell {w wx:World} {B g:Nat} {v:Value} {l:List UInt8} (h:SkR w wx B g v l):wx.cell? ⟨g,0,none⟩=some v:=(h.rws.1.cell 0).trans rfl
def SkC (g:Nat) (w:World) (v:Value) (w':World) (v':Value):Prop:=Ch w w' (Fpt g v)∧(v'.ownBlock=v.ownBlock∨∃b,v'.ownBlock=some b∧w.heap.size≤b)
theorem SkC.refl (g:Nat) (w:World) (v:Value):SkC g w v w v:=⟨Ch.refl w,.inl rfl⟩
theorem SkC.trans {g:Nat} {a b c:World} {v v' v'':Value} (h:SkC g a v b v') (k:SkC g b v' c v''):SkC g a v c v'':=⟨h.1.trans k.1 (fun i hi hs=>by
 rcases hs with e | e
 ·exact .inl e
 ·rcases h.2 with e2 | ⟨b,e2,hb⟩
  ·exact .inr (e2 ▸ e)
  ·rw[e2]at e;injection e with e;omega),by
 rcases k.2 with e | ⟨b2,e,hb⟩
 ·rcases h.2 with e2 | ⟨b,e2,hb⟩
  ·exact .inl (e.trans e2)
  ·exact .inr ⟨b,e.trans e2,hb⟩
 ·exact .inr ⟨b2,e,Z09 h.1.size hb⟩⟩
theorem SkC.below {g:Nat} {w wx w':World} {v v':Value} (h:SkC g w v wx v') (hb:Below wx.heap.size wx w'):SkC g w v w' v':=h.trans ⟨Ch.of_below hb,.inl rfl⟩
def SkPost (w0 w:World) (B g:Nat) (v:Value) (l:List UInt8) (e:Ending) (w':World):Prop:=(∃q,e = .returned q)∧∃v',SkR w0 w' B g v' l∧SkC g w v w' v'
theorem Bk.skc {w w':World} {C g:Nat} {t:TypeId} {cs:Array Value} {v v':Value} (h:Bk w C t cs) (hc:SkC g w v w' v') (hg:C≠g) (hv:v.ownBlock≠some C):Bk w' C t cs:=h.ch hc.1 (fun hf=>by
 rcases hf with e | e
 ·exact hg e
 ·exact hv e)
theorem SkR.ch {w wx w':World} {B g:Nat} {v v':Value} {l l':List UInt8} (h:SkR w wx B g v l) (hr:Rws 95 5 w' B g v' l') (hc:Ch wx w' (Fpt g v)) (hv:v'.ownBlock=v.ownBlock∨∃b,v'.ownBlock=some b∧wx.heap.size≤b):SkR w w' B g v' l':=
 ⟨hr,h.bel.trans ⟨hc.os,hc.tape,hc.output,hc.size,fun k hk=>hc.same k (Z07 hk h.z) (fun hf=>by have:=(h.low k hf).1;omega)⟩,h.g0,X5l h.vg h.rws.1.lt hv,Z09 h.z hc.size⟩
theorem W7t (B g n k c:Nat) (v:Value) (o l:List UInt8) (A:Option Addr) (xs:List Int) (w0 w:World) (h:SkR w0 w B g v o) (hx:xs.length=k) (hX:RL iV w w.heap.size A xs) (hA:xs≠[]→∀ad,A=some ad→¬Fpt g v ad.block)
  (h1:1≤n) (h8:n≤8) (hk:k≤64) (ho:o.length≤1000000000000) (hl:o++xs.flatMap (beB n)=l) :
  Calls Tryz.prog 30 #[.pointer (some ⟨g,0,none⟩),.int .i64 (n:Int),.slice A k c] w (SkPost w0 w B g v l):=by
 refine(W9f B g n k c v o A xs w h.rws h.z h.vg hx hX hA h1 h8 hk ho).mono ?_
 rintro e w' ⟨hq,v',h1,h2,h3⟩;exact⟨hq,v',hl ▸ h.ch h1 h2 h3,h2,h3⟩
theorem Y9g (B g n k:Nat) (v:Value) (o l:List UInt8) (xs:List Int) (cs:Array Value) (w0 w:World) (h:SkR w0 w B g v o) (hx:xs.length=k) (hcs:cs.toList=xs.map iV)
  (h1:1≤n) (h8:n≤8) (hk:k≤64) (ho:o.length≤1000000000000) (hl:o++xs.flatMap (beB n)=l) :
  Calls Tryz.prog 30 #[.pointer (some ⟨g,0,none⟩),.int .i64 (n:Int),.slice (some ⟨w.heap.size,0,none⟩) k k] (w.alloc (.cells cs 3)) (SkPost w0 w B g v l):=by
 refine(W7t B g n k k v o l _ xs w0 _ (h.below (Y9z (Below.refl _ _) (Z00 _) _)) hx ?_ ?_ h1 h8 hk ho hl).mono ?_
 ·exact RL.top (RL.news w xs cs hcs _ _)
 ·intro _ ad e hf
  injection e with e
  subst e
  have:=(h.low _ hf).2
  exact Nat.lt_irrefl _ this
 ·rintro e w' ⟨hq,v',hr,hc⟩
  exact⟨hq,v',hr,((SkC.refl g w v).below (Y9z (Below.refl _ _) (Z00 _) _)).trans hc⟩
theorem X0u (x:Att):(attB x).length=6+x.data.length:=by unfold attB;rw[Z08,Z08,beB_len,beB_len];omega
theorem X9j (M:List AtE) (hd:∀x∈M,x.s.l.length≤32768):((M.map AtE.p).flatMap attB).length≤32774*M.length:=by
 induction M with
 | nil=>simp
 | cons x r ih=>have h1:=hd x (by simp);have h2:=ih (fun y hy=>hd y (by simp [hy]));rw[List.map_cons,Z28,Z08,X0u,Z13];show 6+x.s.l.length+_≤_;omega
theorem X7z (B g:Nat) (v:Value) (o:List UInt8) (Aa:Option Addr) (na ca:Nat) (M:List AtE) (w0 w:World) (h:SkR w0 w B g v o) (hm:M.length=na) (h64:na≤64) (hd:∀x∈M,x.s.l.length≤32768) (ha:RA w0 B Aa M) (ho:o.length≤900000000000) :
  Calls Tryz.prog 32 #[.pointer (some ⟨g,0,none⟩),.slice Aa na ca] w (SkPost w0 w B g v (o++attsB (M.map AtE.p))):=by
 have HM:=bx hm;have HA:=bx ha;have HD:=bx hd;have HO:=bx ho;have H0:=bx h;obtain⟨l0,hl0⟩:∃l0,o++[(na:Int)].flatMap (beB 2)=l0:=⟨_,rfl⟩;have HL0:=bx hl0
 have Ml:Bx (o++attsB (M.map AtE.p)=l0++(M.map AtE.p).flatMap attB):=bx (by
  rw[←hl0];unfold attsB;rw[Z22,hm]
  simp)
 have Yk:Bx (l0.length≤900000000002):=bx (by rw[←hl0];simp [beB_len];omega);have Tj:=bx (Y9g B g 2 1 v o l0 [(na:Int)] #[.int .i64 (na:Int)] w0 w h rfl rfl (by decide) (by decide) (by decide) (by omega) hl0);clear h hm ha hd ho hl0
 go_enter Tryz.func32,Tryz.ntmps32
 go_wp2_with fail
 refine Tj.out.mono ?_;rintro e w1 ⟨⟨_,rfl⟩,v1,h1,hc1⟩;have Wc:Bx (SkR w0 w1 B g v1 (l0++((M.take 0).map AtE.p).flatMap attB)):=bx (by simpa using h1);have Sc:=bx hc1;clear h1 hc1 Tj;go_wp2
 go_loopw [13] (fun iv wx=>∃(j:Nat) (vj:Value),j≤na∧iv = .int .i64 (j:Int)∧Bx (SkR w0 wx B g vj (l0++((M.take j).map AtE.p).flatMap attB))∧Bx (SkC g w v wx vj)) (fun iv _=>na-(intOf iv).toNat)
 case atStart=>exact⟨0,v1,by omega,rfl,Wc,Sc⟩
 case round=>
  clear Wc Sc;obtain⟨j,vj,hj,rfl,HS,HC⟩:=hrel;by_cases hjn:j<na
  ·have hjI:(j:Int)<(na:Int):=by omega
   obtain⟨ad,x,rfl,hlt,HX,p0,p1,Qp⟩:=(HA.out.below HS.out.bel (Z00 _)).at_ (k:=j) (by rw[HM.out];exact hjn);have hxn:x.s.n≤32768:=by have:=HD.out x (Z15 HX.out);have:=Qp.out.1;omega
   have Kw:=bx Qp.out.1;obtain⟨lj,hlj⟩:∃lj,l0++((M.take j).map AtE.p).flatMap attB=lj:=⟨_,rfl⟩
   have hln:lj.length≤900002097540:=by
    rw[←hlj,Z08];have h1:=X9j (M.take j) (fun y hy=>HD.out y (List.mem_of_mem_take hy));have h2:(M.take j).length≤64:=by rw[Z31];omega
    have:=Yk.out
    omega
   have N7:=bx hlj;rw[hlj]at HS;obtain⟨C,hC⟩:∃C,wr.heap.size=C:=⟨_,rfl⟩;have hgC:C≠g∧vj.ownBlock≠some C:=⟨fun e=>by have:=(HS.out.low g (.inl rfl)).2;omega,fun e=>by have:=(HS.out.low C (.inr e)).2;omega⟩;have Vr:=bx hgC;have Yz:=bx (Bk.newAt wr 82 #[.int .i64 x.name,.slice x.s.A x.s.n x.s.c] hC);have Za:=bx (Y9z (Below.refl wr.heap.size wr) (Z00 _) (.cells #[.int .i64 x.name,.slice x.s.A x.s.n x.s.c] 82));have Xk:=bx hC;clear hC hgC hlj;go_upto_region 4 with(fail)
   rw[Xk.out];generalize wr.alloc (.cells #[.int .i64 x.name,.slice x.s.A x.s.n x.s.c] 82)=wb at Yz Za ⊢;have Sr:=bx (HS.out.below Za.out);have My:=bx (HC.out.below Za.out);have c0:wb.cell? ⟨C,0,none⟩=some (.int .i64 x.name):=(Yz.out.cell 0).trans rfl;obtain⟨la,hla⟩:∃la,lj++[x.name].flatMap (beB 2)=la:=⟨_,rfl⟩;obtain⟨lb,hlb⟩:∃lb,la++[(x.s.n:Int)].flatMap (beB 4)=lb:=⟨_,rfl⟩;have hlan:la.length≤900002097542:=by rw[←hla];simp [beB_len];omega
   have hlbn:lb.length≤900002097546:=by rw[←hlb];simp [beB_len];omega
   have Tf:=bx (Y9g B g 2 1 vj lj la [x.name] #[.int .i64 x.name] w0 wb Sr.out rfl rfl (by decide) (by decide) (by decide) (by omega) hla);have Ct:=bx hla;have Gd:=bx hlb;have Gc:=bx hlan;have N6:=bx hlbn;clear p0 p1 Xk hln hla hlb hlan hlbn Qp HS HC;go_wp2_with fail
   refine Tf.out.mono ?_;rintro e w2 ⟨⟨_,rfl⟩,v2,hs2,hc2⟩;have Zn:=bx (Yz.out.skc hc2 Vr.out.1 Vr.out.2)
   have Zd:Bx (v2.ownBlock≠some C):=bx (by
    rcases hc2.2 with e | ⟨b,e,hb⟩
    ·rw[e];exact Vr.out.2
    ·rw[e];intro e2;injection e2 with e2;have:=Yz.out.lt;omega)
   have Wn:=bx hs2;have Yu:=bx (My.out.trans hc2);have Wq:=bx (Y9g B g 4 1 v2 la lb [(x.s.n:Int)] #[.int .i64 (x.s.n:Int)] w0 w2 hs2 rfl rfl (by decide) (by decide) (by decide) (by have:=Gc.out;omega) Gd.out);have c1:w2.cell? ⟨C,1,none⟩=some (.slice x.s.A x.s.n x.s.c):=(Zn.out.cell 1).trans rfl;clear hs2 hc2 c0 Tf;go_wp2_with fail
   refine Wq.out.mono ?_;rintro e w3 ⟨⟨_,rfl⟩,v3,hs3,hc3⟩;have Zm:=bx (Zn.out.skc hc3 Vr.out.1 Zd.out);have Yg:=bx hs3;have Yh:=bx (Yu.out.trans hc3);have c1:w3.cell? ⟨C,1,none⟩=some (.slice x.s.A x.s.n x.s.c):=(Zm.out.cell 1).trans rfl;have s1:w3.cell? ⟨g,0,none⟩=some v3:=hs3.cell;clear hs3 hc3 Wq;go_upto_region 6 with(fail)
   have hRX:=((HA.out.2 x (Z15 HX.out)).below Yg.out.bel (Z00 _)).2.2.2;have Bm:=bx hRX;have HN:Bx ((lb.length+x.s.l.length)*1≤140737488355328):=bx (by have:=N6.out;have:=Kw.out;omega);have hS0:w3.drew.cell? ⟨g,0,none⟩=some v3:=s1;have hS1:w3.drew.cell? ⟨C,1,none⟩=some (.slice x.s.A x.s.n x.s.c):=c1;have hbase:B≤w3.drew.heap.size:=Yg.out.z;clear hRX
   go_region_law ((refine Y7h w3.drew Y6f rfl (.tmp 32) (.tmp 34) rfl byteTyP (by decide) B v3 lb rfl (OwL.drew Yg.out.rws.2) B x.s.A x.s.n x.s.c x.s.l rfl Kw.out (RL.drew Bm.out) HN.out hbase ?_;intro v5 w5 hO5 hg5 hv5 hb5;obtain⟨A5,n5,c5,rfl,hn5,hr5⟩:=OwL.sl hO5;have hK5:=(Yg.out.rws.1.drewN 1).grown hg5 (fun e=>Yg.out.vg e.symm);have hc5:w5.cell? ⟨g,0,none⟩=some v3:=(hK5.cell 0).trans rfl;have hf5:w5.frozen? ⟨g,0,none⟩=false:=hK5.frz 0))
   all_goals (
    obtain⟨n1,n2,n3⟩:=Rws.next (more:=x.s.l) Yg.out.rws (Ch.refl w3) (.inl rfl) Yg.out.rws.1.lt Yg.out.vg (below_drewN (Below.refl w3.heap.size w3) 1) hg5 hO5 hv5
    have N1:Bx (SkR w0 (w5.setCell ⟨g,0,none⟩ (.slice A5 n5 c5)) B g (.slice A5 n5 c5) (l0++((M.take (j+1)).map AtE.p).flatMap attB)):=bx (by
     have h9:=Yg.out.ch n1 n2 n3;have e:l0++((M.take (j+1)).map AtE.p).flatMap attB=lb++x.s.l:=by rw[Y9r HX.out,Z30,Z29,←Z25,N7.out,←Gd.out,←Ct.out];have e2:[x].map AtE.p=[⟨x.name,x.s.l⟩]:=rfl;rw[e2];simp [attB,Kw.out]
     rw[e];exact h9)
    have N2:=bx (Yh.out.trans ⟨n2,n3⟩);clear n1 n2 n3 hO5 hK5 hg5 hv5 hb5 hr5 hn5;go_wp2;go_roundw
    case rel=>exact⟨j+1,_,by omega,by go_num,N1,N2⟩
    case measure=>simp [intOf];omega)
  ·obtain rfl:j=na:=by omega
   have hjI:¬(j:Int)<(j:Int):=(by omega);have hF:Bx (SkR w0 wr B g vj (o++attsB (M.map AtE.p))):=bx (by rw[Ml.out];have:=HS.out;rwa [Z12 (by rw[HM.out];exact Z00 _)]at this);go_wp2
   go_end0
   exact⟨⟨_,rfl⟩,vj,hF.out,HC.out⟩
end Go.Proofs.YtpmfiegfbmamiaaGreatDoor
